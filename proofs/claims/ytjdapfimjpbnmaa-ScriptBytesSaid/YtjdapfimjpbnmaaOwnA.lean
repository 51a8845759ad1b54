/- Texts of this proof, one behind the other: lemmas for the row at the claim's end. No condition of their own. -/
import Derived.Test.YtjdapfimjpbnmaaWApart
import Derived.Test.YtjdapfimjpbnmaaWMore
import Derived.Lib.AppendStr
import Derived.WalkKit
import Derived.KernelRfl
import Derived.RowKit3
import Derived.Deep.QuietTactic
import Derived.BigQuiet
import Derived.Lib.Hide
import Derived.Test.YtjdapfimjpbnmaaProg
import Derived.OrdersHeld
import Derived.Deep.RegionHeld3
import Derived.Deep.Quiet
import Derived.Laws.BytesArg
import Derived.OpenShut
import Derived.Deep.Slices
import Derived.SizedLaws
section
set_option linter.unusedVariables false
set_option linter.unusedSimpArgs false
namespace Go.Proofs.Ytjdapfimjpbnmaa
open Go.RowKit
open Go.Proofs.YtjdapfimjpbnmaaW.PrintWords
open Go.Lib
/-! A string's bytes appended to a row of one's own, told with what the row is none of. -/
variable {P : Program}
/-- Where the row lies then. -/
theorem str_at (W : World) (base : Nat) (t u ty e : TypeId) (i : TypeInfo) (ht : P.underlying t = some (.slice e)) (hu : P.underlying u = some .string) (hi : P.info? e = some i) (hz : i.zero = some (.int .u8 0))
    (hsize : i.size = 1) (hby : i.bytes = 1) (v : Value) (n : Nat) (xs : List Value) (hown : W.ownsRow base e 1 v n xs) (s : ByteArray) (hl : n + s.size ≤ 140737488355328) (v1 : Value) (w1 : World)
    (hrun : (Builtin.append_ #[t, u] ty #[v, .string s]).run P W = .ok v1 w1) (hnil : v1 = .slice none 0 0 ↔ v = .slice none 0 0 ∧ s.size = 0) :
    v1.ownBlock = v.ownBlock ∨ ∃ b, v1.ownBlock = some b ∧ W.heap.size ≤ b := by
  rcases hown with ⟨hxl, ⟨rfl, rfl⟩ | ⟨g, cap, cur, rfl, hbg, hg, hnc, hcm, hcs, htake⟩⟩
  · by_cases hm : s.size = 0
    · rw [hnil.2 ⟨rfl, hm⟩]
      exact .inl rfl
    · have hr := run_append_nil_string (P := P) W t u ty e i (.int .u8 0) ht hu hi hz s (by omega) (by omega) (by rw [hby]; omega)
      rw [hrun] at hr
      injection hr with h1 h2
      subst h1
      exact .inr ⟨_, rfl, Nat.le_refl _⟩
  · by_cases hroom : n + s.size ≤ cap
    · have hr := run_append_room_string (P := P) W t u ty e i ht hu hi hsize g n cap cur hg s hroom (by omega)
      rw [hrun] at hr
      injection hr with h1 h2
      subst h1
      exact .inl rfl
    · have hr := run_append_grow_string (P := P) W t u ty e i (.int .u8 0) ht hu hi hz ⟨g, 0, none⟩ n cap xs (by rw [hsize]; simpa using hxl) (World.ownsRow.cells (base := base) (e := e) ⟨hxl, .inr ⟨g, cap, cur, rfl, hbg, hg, hnc, hcm, hcs, htake⟩⟩ (g := g) rfl) s (by omega) (by omega) (by rw [hby]; exact growslice_fits (by omega) (by omega))
      rw [hrun] at hr
      injection hr with h1 h2
      subst h1
      exact .inr ⟨_, rfl, Nat.le_refl _⟩
theorem R_append_str {ops : Array Oper} {rest : List Oper} {o : Oper} {a : Act} {Q : Exit → Act → World → Prop} {w0 W : World} (base : Nat) (hgd : o.guard = none) (s x : Operand) (t u e : TypeId)
    (ho : o.op = .call { callee := .builtin .append, args := #[s, x], argTypes := #[t, u] })
    (ht : P.underlying t = some (.slice e)) (hu : P.underlying u = some .string) (hinfo : (P.info? e).map (fun i => (i.zero, i.size, i.bytes)) = some (some (.int .u8 0), 1, 1))
    (v : Value) (xs : List Int) (y : ByteArray) (ok : Nat → Prop) (hs : a.eval s = v) (hx : a.eval x = .string y)
    (HO : (Kd.int .u8).R e W base ok v xs) (hfresh : ∀ k, W.heap.size ≤ k → ok k) (HB : Below base w0 W) (hbase : base ≤ W.heap.size) (hl : xs.length + y.size ≤ 140737488355328)
    (h : ∀ v1 w1, (Kd.int .u8).R e w1 base ok v1 (xs ++ bytesOf y) → Below base w0 w1 → W.grownBy w1 v.ownBlock → (v1.ownBlock = v.ownBlock ∨ ∃ b, v1.ownBlock = some b ∧ W.heap.size ≤ b) → wpList P ops Q rest (a.put o.dst v1) w1) :
    wpList P ops Q (o :: rest) a W := by
  obtain ⟨i0, hi, hzz⟩ := Option.map_eq_some_iff.1 hinfo
  simp only [Prod.mk.injEq] at hzz
  obtain ⟨hz0, hz1, hz2⟩ := hzz
  have hown := Kd.own_of_R HO
  have hok := HO.1
  obtain ⟨v1, w1, hrun, h1, hg, hnil⟩ := run_append_own_string (P := P) W base t u o.type e i0 ht hu hi hz0 hz1 hz2 v xs.length _ hown y (by simp only [maxLen]; omega) hl hbase
  have hat := str_at W base t u o.type e i0 ht hu hi hz0 hz1 hz2 v xs.length _ hown y hl v1 w1 hrun hnil
  have hl2 : (xs ++ bytesOf y).length = xs.length + y.size := by rw [List.length_append, bytesOf_length]
  have hc : encs (Value.int .u8) (xs ++ bytesOf y) = encs (Value.int .u8) xs ++ Lib.strCells y := by
    simp [encs, bytesOf, Lib.strCells]
  refine wpList_plain hgd fun K hK => ?_
  unfold Oper.wp execOp
  simp only [ho, resolve, invoke, builtin, Sem.run_bind, Sem.run_pure, Result.andThen_ok, List.map_toArray, List.map_cons, List.map_nil, hs, hx, hrun]
  refine hK _ _ (h v1 w1 (Kd.R_of_own (by rw [hl2, hc]; exact h1) fun k hk => ?_) (HB.grown hg hbase (own_base hown)) hg hat)
  rcases hat with hat | ⟨b, hb, hle⟩
  · exact hok k (hat ▸ hk)
  · rw [hb] at hk
    injection hk with hk
    exact hfresh k (by omega)
end Go.Proofs.Ytjdapfimjpbnmaa
end
section
set_option linter.unusedVariables false
set_option linter.unusedSimpArgs false
namespace Go.Proofs.Ytjdapfimjpbnmaa
open Go.RowKit

/-- A slice value of 'n' elements of 'size' cells reads as the cells 'cs'. -/
def Row (w : World) (size : Nat) (A : Option Addr) (n : Nat) (cs : List Value) : Prop :=
  cs.length = n * size ∧ n ≤ 140737488351232 ∧ (0 < n → ∃ b off, A = some ⟨b, off, none⟩ ∧ b < w.heap.size ∧ ∀ j u, cs[j]? = some u → w.cell? ⟨b, off + j, none⟩ = some u)

def u8s (l : List Int) : List Value := l.map (Value.int .u8)
def Byte (l : List Int) : Prop := ∀ x ∈ l, 0 ≤ x ∧ x ≤ 255

theorem u8s_get (l : List Int) (j : Nat) (h : j < l.length) : (u8s l)[j]? = some (.int .u8 l[j]) := by
  simp [u8s, List.getElem?_eq_getElem h]
theorem u8s_len (l : List Int) : (u8s l).length = l.length := by simp [u8s]

theorem Byte.get {l : List Int} (h : Byte l) (j : Nat) (hj : j < l.length) : 0 ≤ l[j] ∧ l[j] ≤ 255 := h _ (List.getElem_mem hj)

theorem Row.below {w w' : World} {size n : Nat} {A : Option Addr} {cs : List Value} (h : Row w size A n cs) (hb : Below w.heap.size w w') : Row w' size A n cs := by
  obtain ⟨h1, h2, h3⟩ := h
  refine ⟨h1, h2, fun h0 => ?_⟩
  obtain ⟨b, off, e, hlt, hc⟩ := h3 h0
  exact ⟨b, off, e, Nat.lt_of_lt_of_le hlt hb.size, fun j u hj => (hb.cell (p := ⟨b, off + j, none⟩) hlt).trans (hc j u hj)⟩
theorem Row.alloc {w : World} {size n : Nat} {A : Option Addr} {cs : List Value} (h : Row w size A n cs) (o : Obj) : Row (w.alloc o) size A n cs :=
  h.below ((Below.refl _ _).alloc (Nat.le_refl _) o)
theorem Row.drew {w : World} {size n : Nat} {A : Option Addr} {cs : List Value} (h : Row w size A n cs) : Row w.drew size A n cs := h
/-- A block that is known whole reads as a row. -/
theorem Row.ofBlock {w : World} {size n g : Nat} {cs : List Value} {ca : Array Value} {t : TypeId} {fz : Nat × Nat} (hl : cs.length = n * size) (hn : n ≤ 140737488351232)
    (hg : w.heap[g]? = some (.cells ca t fz)) (hc : ∀ (j : Nat) u, cs[j]? = some u → ca[j]? = some u) : Row w size (some ⟨g, 0, none⟩) n cs := by
  refine ⟨hl, hn, fun _ => ⟨g, 0, rfl, ?_, fun j u hj => ?_⟩⟩
  · rcases Nat.lt_or_ge g w.heap.size with h | h
    · exact h
    · rw [Array.getElem?_eq_none h] at hg; cases hg
  · simp only [World.cell?, hg, Nat.zero_add]
    exact hc j u hj
theorem bcell {W w1 : World} (hb : Below W.heap.size W w1) : (∀ b o, b < W.heap.size → w1.cell? ⟨b, o, none⟩ = W.cell? ⟨b, o, none⟩) ∧ (∀ b o, b < W.heap.size → w1.frozen? ⟨b, o, none⟩ = W.frozen? ⟨b, o, none⟩) :=
  ⟨fun b o h => hb.cell (p := ⟨b, o, none⟩) h, fun b o h => hb.frozen (p := ⟨b, o, none⟩) h⟩
/-- One more block. -/
theorem below_step {w w1 w2 : World} {B : Nat} (h : Below B w w1) (hB : B ≤ w1.heap.size) (k : Below w1.heap.size w1 w2) : Below B w w2 := h.trans (k.mono hB)
theorem below_drewN {B : Nat} {a w : World} (h : Below B a w) (n : Nat) : Below B a (w.drewN n) := ⟨h.os, h.tape, h.output, h.size, h.block⟩
theorem heap_new (w : World) (o : Obj) : (w.alloc o).heap[w.heap.size]? = some o := by
  show (w.heap.push o)[w.heap.size]? = _
  simp

theorem flat_get {α : Type} (f : α → List Value) (m : Nat) (hf : ∀ x, (f x).length = m) : ∀ (l : List α) (k j : Nat) (hk : k < l.length), j < m → (l.flatMap f)[k * m + j]? = (f l[k])[j]?
  | x :: l, 0, j, _, hj => by
    rw [List.flatMap_cons, List.getElem?_append_left (by rw [hf]; omega)]
    simp
  | x :: l, k + 1, j, hk, hj => by
    have e : (k + 1) * m + j = m + (k * m + j) := by rw [Nat.add_mul]; omega
    rw [List.flatMap_cons, e, List.getElem?_append_right (by rw [hf]; omega), hf, Nat.add_sub_cancel_left, flat_get f m hf l k j (by simpa using hk) hj]
    rfl
theorem flat_len {α : Type} (f : α → List Value) (m : Nat) (hf : ∀ x, (f x).length = m) (l : List α) : (l.flatMap f).length = l.length * m := by
  induction l with
  | nil => simp
  | cons x l ih => rw [List.flatMap_cons, List.length_append, hf, ih, List.length_cons, Nat.add_mul]; omega

/-! ### A block of cells that is known whole -/
def Blk (w : World) (g : Nat) (t : TypeId) (cs : Array Value) : Prop := w.heap[g]? = some (.cells cs t (0, 0))
theorem lt_of_heap {w : World} {g : Nat} {o : Obj} (h : w.heap[g]? = some o) : g < w.heap.size := by
  rcases Nat.lt_or_ge g w.heap.size with h' | h'
  · exact h'
  · rw [Array.getElem?_eq_none h'] at h; cases h
theorem Blk.lt {w : World} {g : Nat} {t : TypeId} {cs : Array Value} (h : Blk w g t cs) : g < w.heap.size := lt_of_heap h
theorem Blk.cell {w : World} {g : Nat} {t : TypeId} {cs : Array Value} (h : Blk w g t cs) (i : Nat) : w.cell? ⟨g, i, none⟩ = cs[i]? := by
  unfold Blk at h
  simp [World.cell?, h]
theorem Blk.frozen {w : World} {g : Nat} {t : TypeId} {cs : Array Value} (h : Blk w g t cs) (i : Nat) : w.frozen? ⟨g, i, none⟩ = false := by
  unfold Blk at h
  simp [World.frozen?, h]
theorem Blk.new (w : World) (t : TypeId) (cs : Array Value) : Blk (w.alloc (.cells cs t)) w.heap.size t cs := heap_new w _
theorem Blk.drew {w : World} {g : Nat} {t : TypeId} {cs : Array Value} (h : Blk w g t cs) : Blk w.drew g t cs := h
theorem Blk.drewN {w : World} {g : Nat} {t : TypeId} {cs : Array Value} (h : Blk w g t cs) (n : Nat) : Blk (w.drewN n) g t cs := h
theorem Blk.below {w w' : World} {B g : Nat} {t : TypeId} {cs : Array Value} (h : Blk w g t cs) (hb : Below B w w') (hg : g < B) : Blk w' g t cs := (hb.block g hg).trans h
theorem Blk.below' {w w' : World} {g : Nat} {t : TypeId} {cs : Array Value} (h : Blk w g t cs) (hb : Below w.heap.size w w') : Blk w' g t cs := h.below hb h.lt
theorem Blk.alloc {w : World} {g : Nat} {t : TypeId} {cs : Array Value} (h : Blk w g t cs) (o : Obj) : Blk (w.alloc o) g t cs := (Below.heap_alloc w o g h.lt).trans h
theorem Blk.set {w : World} {g : Nat} {t : TypeId} {cs : Array Value} (h : Blk w g t cs) (i : Nat) (u : Value) : Blk (w.setCell ⟨g, i, none⟩ u) g t (cs.setIfInBounds i u) := by
  unfold Blk at *
  simp [World.setCell, Array.getElem?_modify, h]
theorem Blk.other {w : World} {g : Nat} {t : TypeId} {cs : Array Value} (h : Blk w g t cs) {a : Addr} (ha : g ≠ a.block) (u : Value) : Blk (w.setCell a u) g t cs := (Below.heap_setCell w a u g ha).trans h
theorem Row.other {w : World} {size n : Nat} {A : Option Addr} {cs : List Value} (h : Row w size A n cs) {a : Addr} (ha : ∀ b off, A = some ⟨b, off, none⟩ → b ≠ a.block) (u : Value) : Row (w.setCell a u) size A n cs := by
  obtain ⟨h1, h2, h3⟩ := h
  refine ⟨h1, h2, fun h0 => ?_⟩
  obtain ⟨b, off, e, hlt, hc⟩ := h3 h0
  refine ⟨b, off, e, by simpa [World.setCell] using hlt, fun j x hj => ?_⟩
  exact (World.cell?_of_block (Below.heap_setCell w a u b (ha b off e))).trans (hc j x hj)

end Go.Proofs.Ytjdapfimjpbnmaa
end
section
set_option linter.unusedVariables false
set_option linter.unusedSimpArgs false
namespace Go.Proofs.Ytjdapfimjpbnmaa
open Go.RowKit
/-! A region that draws its order. Its operations are walked in ONE order: pieces of operations that only read (a 'chunk'), and between them the operations that make or turn memory, whose order is forced.
  An operation that only reads may be taken first, since it yields the same in every world that has grown from the one at hand; behind the operations of 'ds' (stores) no such thing is claimed: each of them waits for all that is taken before it. -/
section
variable {P : Program} {ops : Array Oper} {Q : Exit → Act → World → Prop} {md : Region.Mode} {ds : List Nat}

def Later (w w' : World) : Prop := Below w.heap.size w w'
theorem Later.refl (w : World) : Later w w := Below.refl _ _
theorem Later.trans {a b c : World} (h : Later a b) (k : Later b c) : Later a c := below_step h h.size k
theorem below_dd {N : Nat} {a b : World} (h : Below N a b) : Below N a.drew b.drew := ⟨h.os, h.tape, h.output, h.size, h.block⟩
theorem undrew {N : Nat} {W w : World} (h : Below N W.drew w) : Below N W w := ⟨h.os, h.tape, h.output, h.size, h.block⟩
theorem below_two {N : Nat} {W a b : World} (h : Below N W a) (k : Below N W b) (hs : a.heap.size ≤ b.heap.size) : Below N a b :=
  ⟨k.os.trans h.os.symm, k.tape.trans h.tape.symm, k.output.trans h.output.symm, hs, fun i hi => (k.block i hi).trans (h.block i hi).symm⟩
/-- How a world may grow while a region is drawn. -/
class LR (R : World → World → Prop) : Prop where
  refl : ∀ w, R w w
  trans : ∀ {a b c}, R a b → R b c → R a c
instance : LR Later := ⟨Later.refl, Later.trans⟩
instance (N : Nat) : LR (Below N) := ⟨Below.refl N, Below.trans⟩
variable {R : World → World → Prop} [LR R]

/-- Operation d waits for operation i, by a chain of at most 'fuel' edges. -/
def reachB (md : Region.Mode) (ops : Array Oper) (i : Nat) : Nat → Nat → Bool
  | 0, _ => false
  | fuel + 1, d => match ops[d]? with
    | some o => o.after.any fun e => Region.binds md e && (e.on == i || reachB md ops i fuel e.on)
    | none => false

/-- What is listed is closed under the edges. -/
def closedB (md : Region.Mode) (ops : Array Oper) (listed : Array Bool) : Bool :=
  (List.range ops.size).all fun j => !listed.getD j false || match ops[j]? with
    | some o => o.after.all fun e => !Region.binds md e || listed.getD e.on false
    | none => true

/-- Each of ds that has not come up yet waits for number i. -/
def lastB (md : Region.Mode) (ops : Array Oper) (listed : Array Bool) (ds : List Nat) (i : Nat) : Bool :=
  ds.all fun d => listed.getD d true || reachB md ops i ops.size d

def ListedClosed (md : Region.Mode) (ops : Array Oper) (listed : Array Bool) : Prop :=
  ∀ j oj, ops[j]? = some oj → listed.getD j false = true → ∀ e ∈ oj.after, Region.binds md e = true → listed.getD e.on false = true

theorem closed_spec {listed : Array Bool} (h : closedB md ops listed = true) : ListedClosed md ops listed := by
  intro j oj hj hl e he hb
  have hlt : j < ops.size := (Array.getElem?_eq_some_iff.1 hj).1
  have h1 := List.all_eq_true.1 h j (List.mem_range.2 hlt)
  simp only [hl, hj, Bool.not_true, Bool.false_or] at h1
  have h2 := Array.all_eq_true_iff_forall_mem.1 h1 e he
  simpa [hb] using h2

theorem ListedClosed.set {listed : Array Bool} {i : Nat} (h : ListedClosed md ops listed) (hi : i ∈ Region.ready md ops listed) : ListedClosed md ops (listed.setIfInBounds i true) := by
  obtain ⟨_, oi, hoi, hall⟩ := mem_ready.1 hi
  intro j oj hj hl e he hb
  by_cases hij : i = j
  · subst hij
    have : oj = oi := Option.some.inj (hj.symm.trans hoi)
    subst this
    exact getD_set_true (hall e he hb)
  · rw [getD_set_ne false hij] at hl
    exact getD_set_true (h j oj hj hl e he hb)

theorem reach_listed {listed : Array Bool} {i : Nat} (hc : ListedClosed md ops listed) : ∀ (fuel d : Nat), reachB md ops i fuel d = true → listed.getD d false = true → listed.getD i false = true
  | 0, _, h, _ => by simp [reachB] at h
  | fuel + 1, d, h, hl => by
    unfold reachB at h
    cases ho : ops[d]? with
    | none => rw [ho] at h; simp at h
    | some o =>
      rw [ho] at h
      obtain ⟨e, he, h1⟩ := Array.any_eq_true'.1 h
      simp only [Bool.and_eq_true, Bool.or_eq_true, beq_iff_eq] at h1
      have hle := hc d o ho hl e he h1.1
      rcases h1.2 with h2 | h2
      · rw [← h2]; exact hle
      · exact reach_listed hc fuel e.on h2 hle

/-- What waits for i cannot come up before i is listed. -/
theorem reach_not_ready {listed : Array Bool} {i d fuel : Nat} (hc : ListedClosed md ops listed) (hr : reachB md ops i fuel d = true) (hun : listed.getD i true = false) : d ∉ Region.ready md ops listed := by
  intro hd
  obtain ⟨_, o, ho, hall⟩ := mem_ready.1 hd
  have hi : listed.getD i false = true := by
    cases fuel with
    | zero => simp [reachB] at hr
    | succ n =>
      unfold reachB at hr
      rw [ho] at hr
      obtain ⟨e, he, h1⟩ := Array.any_eq_true'.1 hr
      simp only [Bool.and_eq_true, Bool.or_eq_true, beq_iff_eq] at h1
      have hle := hall e he h1.1
      rcases h1.2 with h2 | h2
      · rw [← h2]; exact hle
      · exact reach_listed hc n e.on h2 hle
  rcases Nat.lt_or_ge i listed.size with h' | h'
  · simp [h'] at hun hi
    rw [hun] at hi
    cases hi
  · simp [Array.getElem?_eq_none h'] at hun


def wpAnyM (P : Program) (md : Region.Mode) (ops : Array Oper) (Q : Exit → Act → World → Prop) (ds : List Nat) (R : World → World → Prop) : Nat → Array Bool → Act → World → Prop
  | 0, listed, a, w => Region.ready md ops listed = [] ∧ Q .normal a w
  | fuel + 1, listed, a, w =>
    (Region.ready md ops listed = [] → Q .normal a w) ∧
    ∀ i ∈ Region.ready md ops listed, wpOp P ops Q i (fun a' w' => (i ∉ ds → R w w') ∧ wpAnyM P md ops Q ds R fuel (listed.setIfInBounds i true) a' w') a w

omit [LR R] in
theorem wpAny_of_M : ∀ (fuel : Nat) (listed : Array Bool) (a : Act) (w : World), wpAnyM P md ops Q ds R fuel listed a w → wpAny P md ops Q fuel listed a w
  | 0, _, _, _, h => h
  | fuel + 1, _, _, _, h => ⟨h.1, fun i hi => wpOp_mono (fun a' w' h' => wpAny_of_M fuel _ a' w' h'.2) (h.2 i hi)⟩

/-- In state 'a', in every world that meets S, operation 'o' leaves 'v' in its temporary and the world as it is (a call too). -/
def YieldsX (P : Program) (ops : Array Oper) (S : World → Prop) (o : Oper) (v : Value) (a : Act) : Prop :=
  (Region.wanted o (yielded ops a.tmps) = true ∧ ∀ w, S w → o.quietAt P a (fun w' => w' = w) w v) ∨ (Region.wanted o (yielded ops a.tmps) = false ∧ v = undef)
omit [LR R] in
theorem YieldsX.wpOp {S : World → Prop} {i : Nat} {o : Oper} {v : Value} {a : Act} (hi : ops[i]? = some o) (hy : YieldsX P ops S o v a) {K : Act → World → Prop} {w : World} (hS : S w) (h : K (a.put o.dst v) w) : wpOp P ops Q i K a w := by
  unfold Go.wpOp
  simp only [hi]
  rcases hy with ⟨hw, hv⟩ | ⟨hw, rfl⟩
  · simp only [hw, if_true]
    have h3 := hv w hS
    unfold Oper.quietAt at h3
    refine .inl ?_
    unfold Oper.wp
    generalize (execOp a.eval o).run P w = r at *
    cases r with
    | ok n w' =>
      cases n <;> simp only [Oper.quietUpon] at h3 <;> simp only [Oper.upon]
      case value u => rw [h3.1, h3.2]; exact h
      case skip => rw [h3.1, ← h3.2]; exact h
      case enter f args =>
        obtain ⟨e1, hc⟩ := h3
        rw [e1]
        exact hc.mono fun e w'' ⟨he, hw''⟩ => by subst he; subst hw''; exact h
    | halt x w' => simp only [Oper.quietUpon] at h3
  · simp only [hw, Bool.false_eq_true, if_false]; exact h
omit [LR R] in
theorem YieldsX.of_same {S : World → Prop} {o : Oper} {v : Value} {a a' : Act} (hy : YieldsX P ops S o v a) (he : execOp a'.eval o = execOp a.eval o)
    (hw : Region.wanted o (yielded ops a'.tmps) = Region.wanted o (yielded ops a.tmps)) : YieldsX P ops S o v a' := by
  unfold YieldsX Oper.quietAt at *
  rw [he, hw]
  exact hy
omit [LR R] in
theorem wpOp_putX {S : World → Prop} {j : Nat} {oi oj : Oper} {v : Value} (hj : ops[j]? = some oj) (hap : oi.apart ops oj = true)
    (hsi : ∀ cs b, oi.op ≠ .select cs b) (hsj : ∀ cs b, oj.op ≠ .select cs b)
    (hQ : ∀ c a w, Q (.panic c) (a.put oi.dst v) w → Q (.panic c) a w) {K : Act → World → Prop} {a : Act} {w : World}
    (hy : YieldsX P ops S oi v a) (h : wpOp P ops Q j K (a.put oi.dst v) w) :
    wpOp P ops Q j (fun a' w' => YieldsX P ops S oi v a' ∧ K (a'.put oi.dst v) w') a w := by
  obtain ⟨h1, h2, h3⟩ := Oper.apart_spec hap
  have keep : ∀ (a : Act), YieldsX P ops S oi v a → ∀ u, YieldsX P ops S oi v (a.put oj.dst u) := fun a hy u =>
    hy.of_same (execOp_put oi hsi a oj.dst u h3) (wanted_put oi a oj.dst u h3)
  have keepD : ∀ d, YieldsX P ops S oi v { a with defers := d :: a.defers } := fun d => hy.of_same rfl rfl
  unfold wpOp at *
  simp only [hj] at *
  rw [wanted_put oj a oi.dst v h1] at h
  split
  · rename_i hw
    simp only [hw, if_true] at h
    rcases h with h | ⟨hasks, hlets⟩
    case inr => exact .inr ⟨by unfold Oper.asks at *; rw [execOp_put oj hsj a oi.dst v h1] at hasks; exact hasks, hlets⟩
    refine .inl ?_
    unfold Oper.wp at *
    rw [execOp_put oj hsj a oi.dst v h1] at h
    generalize (execOp a.eval oj).run P w = r at *
    cases r with
    | ok n w' =>
      cases n <;> simp only [Oper.upon] at h ⊢
      case value u => exact ⟨keep a hy u, by rw [← Act.put_comm a v u h2]; exact h⟩
      case skip => exact ⟨keep a hy _, by rw [← Act.put_comm a v undef h2]; exact h⟩
      case defer d =>
        refine ⟨keep _ (keepD d) _, ?_⟩
        rw [← Act.put_comm _ v undef h2, ← Act.put_defers]
        exact h
      case enter f args =>
        refine Calls.mono h fun e w'' he => ?_
        cases e with
        | returned u => exact ⟨keep a hy u, by rw [← Act.put_comm a v u h2]; exact he⟩
        | panicked c => exact hQ _ _ _ he
        | outgrown => exact he
      case row row args => exact Rows.mono h fun u w'' he => ⟨keep a hy u, by rw [← Act.put_comm a v u h2]; exact he⟩
    | halt x w' =>
      cases x <;> simp only [Oper.upon] at h ⊢
      case panic u => exact hQ _ _ _ h
  · rename_i hw
    simp only [hw] at h
    exact ⟨keep a hy _, by rw [← Act.put_comm a v undef h2]; exact h⟩

theorem wpAnyM_first {i : Nat} {oi : Oper} {v : Value} {w0 : World} (hi : ops[i]? = some oi) (hsel : ∀ (j : Nat) (o : Oper) cs b, ops[j]? = some o → o.op ≠ .select cs b)
    (hQ : ∀ c a w, Q (.panic c) (a.put oi.dst v) w → Q (.panic c) a w) (n : Nat) :
    ∀ (fuel : Nat) (listed : Array Bool) (a : Act) (w : World),
      (∀ j oj, ops[j]? = some oj → j ≠ i → listed.getD j true = false → (∀ e ∈ oj.after, Region.binds md e = true → e.on ≠ i) → oi.apart ops oj = true) →
      ListedClosed md ops listed → (∀ d ∈ ds, listed.getD d true = false → reachB md ops i n d = true) →
      i ∈ Region.ready md ops listed → YieldsX P ops (R w0) oi v a → R w0 w →
      wpAnyM P md ops Q ds R fuel (listed.setIfInBounds i true) (a.put oi.dst v) w → wpAnyM P md ops Q ds R (fuel + 1) listed a w := by
  intro fuel
  induction fuel with
  | zero =>
    intro listed a w _ _ _ hr hy hS H
    refine ⟨fun h => (by rw [h] at hr; cases hr), fun j hj => ?_⟩
    by_cases hji : j = i
    · subst hji; exact hy.wpOp hi hS ⟨fun _ => LR.refl _, H⟩
    · have := ready_mono hj hji
      rw [H.1] at this
      cases this
  | succ fuel ih =>
    intro listed a w hfree hc hd hr hy hS H
    refine ⟨fun h => (by rw [h] at hr; cases hr), fun j hj => ?_⟩
    by_cases hji : j = i
    · subst hji; exact hy.wpOp hi hS ⟨fun _ => LR.refl _, H⟩
    · have h1 := H.2 j (ready_mono hj hji)
      obtain ⟨hjun, oj, hoj, hall⟩ := mem_ready.1 hj
      have hiun := (mem_ready.1 hr).1
      have hnot : ∀ e ∈ oj.after, Region.binds md e = true → e.on ≠ i := fun e he hb heq => by
        have h1 := hall e he hb
        rw [heq] at h1
        rcases Nat.lt_or_ge i listed.size with h' | h'
        · simp [h'] at hiun h1; rw [hiun] at h1; cases h1
        · simp [Array.getElem?_eq_none h'] at h1
      have hjd : j ∉ ds := fun hm => reach_not_ready hc (hd j hm hjun) hiun hj
      have h2 := wpOp_putX hoj (hfree j oj hoj hji hjun hnot) (fun cs b => hsel i oi cs b hi) (fun cs b => hsel j oj cs b hoj) hQ hy h1
      have hfree' : ∀ k ok, ops[k]? = some ok → k ≠ i → (listed.setIfInBounds j true).getD k true = false →
          (∀ e ∈ ok.after, Region.binds md e = true → e.on ≠ i) → oi.apart ops ok = true := fun k ok hk hki hun hno => by
        refine hfree k ok hk hki ?_ hno
        by_cases hjk : j = k
        · subst hjk; exact hjun
        · rw [getD_set_ne true hjk] at hun; exact hun
      have hd' : ∀ d ∈ ds, (listed.setIfInBounds j true).getD d true = false → reachB md ops i n d = true := fun d hm hun => by
        refine hd d hm ?_
        by_cases hjk : j = d
        · subst hjk; exact hjun
        · rw [getD_set_ne true hjk] at hun; exact hun
      refine wpOp_mono (fun a' w' h3 => ⟨h3.2.1, ih (listed.setIfInBounds j true) a' w' hfree' (hc.set hj) hd' (ready_mono hr (Ne.symm hji)) h3.1 (LR.trans hS (h3.2.1 hjd)) ?_⟩) h2
      rw [Array.setIfInBounds_comm _ _ hji]
      exact h3.2.2

/-! ### A chunk -/
def wpChunk (P : Program) (ops : Array Oper) : List Oper → Act → World → Act → Prop
  | [], a, _, A => a = A
  | o :: r, a, w, A => if Region.wanted o (yielded ops a.tmps) = true then ∃ v, o.quietAt P a (fun w' => w' = w) w v ∧ wpChunk P ops r (a.put o.dst v) w A else wpChunk P ops r (a.put o.dst undef) w A

/-- What is listed behind a chunk; none: its operations can't be taken so. -/
def chunkAt (md : Region.Mode) (ops : Array Oper) (ds : List Nat) (n : Nat) : List Nat → List Nat → Array Bool → Option (Array Bool)
  | [], _, listed => some listed
  | i :: r, seen, listed =>
    match ops[i]? with
    | none => none
    | some o => match o.dst with
      | none => none
      | some d => if Region.free md ops listed i && (Region.ready md ops listed).contains i && closedB md ops listed && lastB md ops listed ds i && decide (d < n) && !seen.contains d then chunkAt md ops ds n r (d :: seen) (listed.setIfInBounds i true) else none

theorem put_size (a : Act) (d : Option Tmp) (v : Value) : (a.put d v).tmps.size = a.tmps.size := by
  cases d <;> simp [Act.put]
theorem put_getD (a : Act) (d : Tmp) (v : Value) (h : d < a.tmps.size) : (a.put (some d) v).tmps.getD d undef = v := by
  simp [Act.put, h]
theorem put_getD_ne (a : Act) (d e : Tmp) (v : Value) (h : d ≠ e) : (a.put (some d) v).tmps.getD e undef = a.tmps.getD e undef := by
  simp [Act.put, Array.getElem?_setIfInBounds, h]
theorem chunk_keeps {n : Nat} : ∀ (ch : List Nat) (seen : List Nat) (listed listed' : Array Bool), chunkAt md ops ds n ch seen listed = some listed' →
    ∀ (a A : Act) (w : World), wpChunk P ops (ch.filterMap (ops[·]?)) a w A → ∀ e ∈ seen, A.tmps.getD e undef = a.tmps.getD e undef
  | [], _, _, _, _, a, A, w, h, e, _ => by
    have : a = A := h
    rw [this]
  | i :: r, seen, listed, listed', hc, a, A, w, h, e, he => by
    unfold chunkAt at hc
    cases ho : ops[i]? with
    | none => rw [ho] at hc; cases hc
    | some o =>
      rw [ho] at hc
      simp only at hc
      cases hd : o.dst with
      | none => rw [hd] at hc; cases hc
      | some d =>
        rw [hd] at hc
        simp only at hc
        split at hc
        · rename_i hb
          simp only [Bool.and_eq_true, Bool.not_eq_true', List.contains_eq_mem, decide_eq_false_iff_not, decide_eq_true_eq] at hb
          have hne : d ≠ e := fun h => hb.2 (h ▸ he)
          simp only [List.filterMap_cons, ho] at h
          unfold wpChunk at h
          rw [hd] at h
          split at h
          · obtain ⟨v, _, h⟩ := h
            exact (chunk_keeps r (d :: seen) _ _ hc _ A w h e (by simp [he])).trans (put_getD_ne a d e v hne)
          · exact (chunk_keeps r (d :: seen) _ _ hc _ A w h e (by simp [he])).trans (put_getD_ne a d e undef hne)
        · cases hc

theorem draw_chunk {n : Nat} (hs : Region.noSelect ops = true) (hQ : ∀ c (d : Tmp) v a w, Q (.panic c) (a.put (some d) v) w → Q (.panic c) a w) :
    ∀ (ch : List Nat) (seen : List Nat) (listed listed' : Array Bool), chunkAt md ops ds n ch seen listed = some listed' →
    ∀ (fuel : Nat) (a A : Act) (w : World), a.tmps.size = n → (∀ w', R w w' → wpChunk P ops (ch.filterMap (ops[·]?)) a w' A) → wpAnyM P md ops Q ds R fuel listed' A w → wpAnyM P md ops Q ds R (fuel + ch.length) listed a w
  | [], _, listed, listed', hc, fuel, a, A, w, _, h, hn => by
    simp only [chunkAt, Option.some.injEq] at hc
    subst hc
    have : a = A := h w (LR.refl w)
    subst this
    exact hn
  | i :: r, seen, listed, listed', hc, fuel, a, A, w, hn, h, hnext => by
    unfold chunkAt at hc
    cases ho : ops[i]? with
    | none => rw [ho] at hc; cases hc
    | some o =>
      rw [ho] at hc
      simp only at hc
      cases hd : o.dst with
      | none => rw [hd] at hc; cases hc
      | some d =>
        rw [hd] at hc
        simp only at hc
        split at hc
        · rename_i hb
          simp only [Bool.and_eq_true, Bool.not_eq_true', List.contains_eq_mem, decide_eq_false_iff_not, decide_eq_true_eq] at hb
          obtain ⟨⟨⟨⟨⟨b1, b2⟩, b3⟩, b4⟩, b5⟩, b6⟩ := hb
          simp only [List.filterMap_cons, ho] at h
          have hl : ∀ d' ∈ ds, listed.getD d' true = false → reachB md ops i ops.size d' = true := fun d' hm hun => by
            have := List.all_eq_true.1 b4 d' hm
            rw [hun] at this
            simpa using this
          by_cases hw : Region.wanted o (yielded ops a.tmps) = true
          · have key : ∀ w', R w w' → ∃ v, o.quietAt P a (fun w'' => w'' = w') w' v ∧ wpChunk P ops (r.filterMap (ops[·]?)) (a.put o.dst v) w' A := fun w' hw' => by
              have := h w' hw'
              unfold wpChunk at this
              rw [if_pos hw] at this
              exact this
            have hv : ∀ w', R w w' → o.quietAt P a (fun w'' => w'' = w') w' (A.tmps.getD d undef) ∧ wpChunk P ops (r.filterMap (ops[·]?)) (a.put o.dst (A.tmps.getD d undef)) w' A := fun w' hw' => by
              obtain ⟨v, e1, e2⟩ := key w' hw'
              have : A.tmps.getD d undef = v := by
                rw [hd] at e2
                rw [chunk_keeps r (d :: seen) _ _ hc _ A w' e2 d (by simp), put_getD a d v (by rw [hn]; exact b5)]
              rw [this]
              exact ⟨e1, e2⟩
            have ih := draw_chunk hs hQ r (d :: seen) _ _ hc fuel (a.put o.dst (A.tmps.getD d undef)) A w (by rw [put_size]; exact hn) (fun w' hw' => (hv w' hw').2) hnext
            exact wpAnyM_first ho (Region.noSelect_spec hs) (fun c a w => by rw [hd]; exact hQ c _ _ a w) ops.size (fuel + r.length) listed a w (Region.free_spec ho b1) (closed_spec b3) hl (by simpa using b2)
              (.inl ⟨hw, fun w' hw' => (hv w' hw').1⟩) (LR.refl w) ih
          · have hw' : Region.wanted o (yielded ops a.tmps) = false := by simpa using hw
            have ih := draw_chunk hs hQ r (d :: seen) _ _ hc fuel (a.put o.dst undef) A w (by rw [put_size]; exact hn) (fun w' hw'' => by
              have := h w' hw''
              unfold wpChunk at this
              rw [if_neg hw] at this
              exact this) hnext
            exact wpAnyM_first ho (Region.noSelect_spec hs) (fun c a w => by rw [hd]; exact hQ c _ _ a w) ops.size (fuel + r.length) listed a w (Region.free_spec ho b1) (closed_spec b3) hl (by simpa using b2)
              (.inr ⟨hw', rfl⟩) (LR.refl w) ih
        · cases hc
theorem at_drop {i : Nat} {o : Oper} {t : List Oper} (h : ops.toList.drop i = o :: t) : ops[i]? = some o := by
  have : (ops.toList.drop i)[0]? = some o := by rw [h]; rfl
  rw [List.getElem?_drop] at this
  simpa using this
omit [LR R] in
/-- An operation that makes or turns memory: nothing else may come up. -/
theorem draw_eff {i : Nat} {o : Oper} {t : List Oper} {fuel : Nat} {listed listed' : Array Bool} {a : Act} {w : World} (ho : ops.toList.drop i = o :: t) (hr : (Region.ready md ops listed == [i]) = true) (hl : listed.setIfInBounds i true = listed')
    (h : ∀ K : Act → World → Prop, (∀ a' w', ((i ∉ ds → R w w') ∧ wpAnyM P md ops Q ds R fuel listed' a' w') → K a' w') → wpList P ops (Exit.then K Q) [o] a w) : wpAnyM P md ops Q ds R (fuel + 1) listed a w := by
  subst hl
  replace h := h _ fun _ _ h => h
  replace ho := at_drop ho
  have hr' : Region.ready md ops listed = [i] := by simpa using hr
  refine ⟨fun h0 => (by rw [hr'] at h0; cases h0), fun j hj => ?_⟩
  rw [hr'] at hj
  obtain rfl : j = i := by simpa using hj
  unfold wpOp
  rw [ho]
  unfold wpList at h
  simp only
  split
  · rename_i hw
    rw [if_pos hw] at h
    rcases h with h | ⟨h1, a0, w0, h2⟩
    · refine .inl ?_
      unfold Oper.wp at *
      generalize (execOp a.eval o).run P w = r at *
      cases r with
      | ok n w' =>
        cases n <;> simp only [Oper.upon] at h ⊢
        case value => exact h
        case skip => exact h
        case defer => exact h
        case enter =>
          refine Calls.mono h fun e w'' he => ?_
          cases e with
          | returned u => exact he
          | panicked c => exact he
          | outgrown => exact he
        case row => exact Rows.mono h fun u w'' he => he
      | halt x w' => cases x <;> simp only [Oper.upon] at h ⊢ <;> exact h
    · exact .inr ⟨h1, a0, w0, h2⟩
  · rename_i hw
    rw [if_neg hw] at h
    unfold wpList at h
    exact h
omit [LR R] in
theorem draw_done {listed : Array Bool} {a : Act} {w : World} (hr : (Region.ready md ops listed == []) = true) (h : Q .normal a w) : ∀ fuel, wpAnyM P md ops Q ds R fuel listed a w
  | 0 => ⟨by simpa using hr, h⟩
  | _ + 1 => ⟨fun _ => h, by rw [show Region.ready md ops listed = [] by simpa using hr]; simp⟩
theorem ci_step {i : Nat} {r : List Nat} {o : Oper} {t : List Oper} {v : Value} {a A : Act} {w : World} (ho : ops.toList.drop i = o :: t) (hw : Region.wanted o (yielded ops a.tmps) = true) (hr : (execOp a.eval o).run P w = .ok (.value v) w)
    (h : wpChunk P ops (r.filterMap (ops[·]?)) (a.put o.dst v) w A) : wpChunk P ops ((i :: r).filterMap (ops[·]?)) a w A := by
  simp only [List.filterMap_cons, at_drop ho]
  unfold wpChunk
  rw [if_pos hw]
  exact ⟨v, by unfold Oper.quietAt; rw [hr]; exact ⟨rfl, rfl⟩, h⟩
/-- A call that leaves the world as it is. -/
theorem ci_call {i : Nat} {r : List Nat} {o : Oper} {t : List Oper} {v : Value} {a A : Act} {w : World} {f : FuncId} {args : Array Value} (ho : ops.toList.drop i = o :: t) (hw : Region.wanted o (yielded ops a.tmps) = true) (hr : (execOp a.eval o).run P w = .ok (.enter f args) w)
    (hc : Calls P f args w fun e w' => e = .returned v ∧ w' = w) (h : wpChunk P ops (r.filterMap (ops[·]?)) (a.put o.dst v) w A) : wpChunk P ops ((i :: r).filterMap (ops[·]?)) a w A := by
  simp only [List.filterMap_cons, at_drop ho]
  unfold wpChunk
  rw [if_pos hw]
  exact ⟨v, by unfold Oper.quietAt; rw [hr]; exact ⟨rfl, hc⟩, h⟩
theorem ci_off {i : Nat} {r : List Nat} {o : Oper} {t : List Oper} {a A : Act} {w : World} (ho : ops.toList.drop i = o :: t) (hw : Region.wanted o (yielded ops a.tmps) = false)
    (h : wpChunk P ops (r.filterMap (ops[·]?)) (a.put o.dst undef) w A) : wpChunk P ops ((i :: r).filterMap (ops[·]?)) a w A := by
  simp only [List.filterMap_cons, at_drop ho]
  unfold wpChunk
  rw [if_neg (by simp [hw])]
  exact h
theorem ci_end {a A : Act} {w : World} (h : a = A) : wpChunk P ops (([] : List Nat).filterMap (ops[·]?)) a w A := h
theorem draw_start {id : Nat} {a : Act} {w : World} (ds : List Nat) (R : World → World → Prop) (hm : P.follows .mixedOrders = true)
    (h : wpAnyM P .any ops Q ds R ops.size (Array.replicate ops.size false) a w.drew) : (Code.region id ops true).wp P Q a w :=
  wp_region_any hm (wpAny_of_M _ _ _ _ h)
end
attribute [irreducible] wpChunk wpAnyM
end Go.Proofs.Ytjdapfimjpbnmaa
end
section
set_option linter.unusedVariables false
set_option linter.unusedSimpArgs false
namespace Go.Proofs.Ytjdapfimjpbnmaa
open Go.RowKit

def maskI (n : Int) : Int := 4294967296 - 2 ^ (32 - n).toNat
/-- Is a prefix one? -/
def rightB (a l : Int) : Bool := decide (0 ≤ l ∧ l ≤ 32 ∧ a % 2 ^ (32 - l).toNat = 0)
/-- Has a prefix that is one an address? -/
def inB (a l x : Int) : Bool := decide (x - x % 2 ^ (32 - l).toNat = a)
def hasB (a l x : Int) : Bool := rightB a l && inB a l x

theorem shl_mask (k : Nat) (h : k ≤ 31) : (4294967295 : Int) * 2 ^ k % 4294967296 = 4294967296 - 2 ^ k := by
  have : ∀ k : Fin 32, (4294967295 : Int) * 2 ^ k.val % 4294967296 = 4294967296 - 2 ^ k.val := by decide
  exact this ⟨k, by omega⟩
theorem pow_bd (k : Nat) (h : k ≤ 32) : (1 : Int) ≤ 2 ^ k ∧ (2 : Int) ^ k ≤ 4294967296 := by
  have : ∀ k : Fin 33, (1 : Int) ≤ 2 ^ k.val ∧ (2 : Int) ^ k.val ≤ 4294967296 := by decide
  exact this ⟨k, by omega⟩
theorem natpow_bd (k : Nat) (h : k ≤ 32) : 1 ≤ 2 ^ k ∧ 2 ^ k ≤ 4294967296 := by
  have : ∀ k : Fin 33, 1 ≤ 2 ^ k.val ∧ 2 ^ k.val ≤ 4294967296 := by decide
  exact this ⟨k, by omega⟩
theorem maskI_nat (l : Int) (h0 : 0 ≤ l) (h1 : l ≤ 32) : maskI l = ((4294967296 - 2 ^ (32 - l).toNat : Nat) : Int) := by
  have := natpow_bd (32 - l).toNat (by omega)
  unfold maskI
  rw [Int.natCast_sub this.2]
  simp
theorem andNot_mask (a l : Int) (ha : 0 ≤ a ∧ a ≤ 4294967295) (h0 : 0 ≤ l) (h1 : l ≤ 32) : (Go.bits .andNot .u32 a (maskI l) == 0) = decide (a % 2 ^ (32 - l).toNat = 0) := by
  have hk := natpow_bd (32 - l).toNat (by omega)
  obtain ⟨n, rfl⟩ := Int.eq_ofNat_of_zero_le ha.1
  rw [maskI_nat l h0 h1, u32_andNot_nat _ _ (by omega) (by omega)]
  generalize (32 - l).toNat = k at *
  rw [show 4294967295 - (4294967296 - 2 ^ k) = 2 ^ k - 1 by omega, Nat.and_two_pow_sub_one_eq_mod]
  rw [show ((n : Int) % 2 ^ k) = ((n % 2 ^ k : Nat) : Int) by simp]
  rw [Bool.eq_iff_iff]
  simp
theorem and_high (x k : Nat) (hk : k ≤ 32) (hx : x < 4294967296) : x &&& (4294967296 - 2 ^ k) = x - x % 2 ^ k := by
  have e : 4294967296 - 2 ^ k = (2 ^ (32 - k) - 1) <<< k := by
    rw [Nat.shiftLeft_eq, Nat.sub_mul, ← Nat.pow_add, show 32 - k + k = 32 by omega, Nat.one_mul]
  have e2 : x - x % 2 ^ k = (x / 2 ^ k) <<< k := by
    rw [Nat.shiftLeft_eq]
    have := Nat.div_add_mod x (2 ^ k)
    rw [Nat.mul_comm] at this
    omega
  rw [e, e2]
  refine Nat.eq_of_testBit_eq fun i => ?_
  rw [Nat.testBit_and, Nat.testBit_shiftLeft, Nat.testBit_shiftLeft, Nat.testBit_two_pow_sub_one, Nat.testBit_div_two_pow]
  by_cases hi : k ≤ i
  · simp only [hi, decide_true, Bool.true_and, ge_iff_le]
    rw [show i - k + k = i by omega]
    by_cases h2 : i - k < 32 - k
    · simp [h2]
    · have : x.testBit i = false := Nat.testBit_lt_two_pow (Nat.lt_of_lt_of_le hx (by
        calc 4294967296 = 2 ^ 32 := by decide
          _ ≤ 2 ^ i := Nat.pow_le_pow_right (by decide) (by omega)))
      simp [this]
  · simp [hi]
theorem and_mask (x l : Int) (hx : 0 ≤ x ∧ x ≤ 4294967295) (h0 : 0 ≤ l) (h1 : l ≤ 32) : Go.bits .and .u32 x (maskI l) = x - x % 2 ^ (32 - l).toNat := by
  have hk := natpow_bd (32 - l).toNat (by omega)
  obtain ⟨n, rfl⟩ := Int.eq_ofNat_of_zero_le hx.1
  rw [maskI_nat l h0 h1, u32_and_nat _ _ (by omega) (by omega), and_high n _ (by omega) (by omega)]
  have := Nat.mod_le n (2 ^ (32 - l).toNat)
  rw [Int.natCast_sub this]
  simp

theorem addr_mask (n : Int) (w : World) (h0 : 0 ≤ n) (h1 : n ≤ 32) : Calls Try.prog 47 #[.int .i64 n] w fun e w' => e = .returned (.int .u32 (maskI n)) ∧ w' = w := by
  by_cases hn : n = 0
  · subst hn
    have HM := Lib.hid (show maskI 0 = 0 by decide)
    go_enter Try.func47, Try.ntmps47
    go_wp2
    go_ret
    exact ⟨by rw [HM.out]; rfl, rfl⟩
  · have hn' : (n == 0) = false := by simpa using hn
    go_enter Try.func47, Try.ntmps47
    go_wp2
    go_ret
    exact ⟨congrArg (fun x => Ending.returned (.int .u32 x)) (shl_mask (32 - n).toNat (by omega)), rfl⟩

theorem addr_Right (a l : Int) (w : World) (ha : 0 ≤ a ∧ a ≤ 4294967295) : Calls Try.prog 33 #[.agg #[.int .u32 a, .int .i64 l]] w
    fun e w' => e = .returned (.bool (rightB a l)) ∧ Below w.heap.size w w' := by
  by_cases h0 : 0 ≤ l
  · by_cases h1 : l ≤ 32
    · have hb := Lib.hid (show rightB a l = (Go.bits .andNot .u32 a (maskI l) == 0) by rw [andNot_mask a l ha h0 h1]; simp [rightB, h0, h1])
      go_enter Try.func33, Try.ntmps33
      go_wp2_with fail
      go_quiet ((go_at_call 47; exact Calls.quiet_of_same (addr_mask _ _ h0 h1)))
      go_wp2
      go_ret
      exact ⟨by rw [hb.out]; rfl, below_drewN ((Below.refl _ _).alloc (Nat.le_refl _) _) _⟩
    · have hb := Lib.hid (show rightB a l = false by simp [rightB, h1])
      have h1' : decide (l ≤ 32) = false := by simpa using h1
      go_enter Try.func33, Try.ntmps33
      go_wp2_with fail
      go_quiet (fail)
      go_wp2
      go_ret
      exact ⟨by rw [hb.out]; rfl, below_drewN ((Below.refl _ _).alloc (Nat.le_refl _) _) _⟩
  · have hb := Lib.hid (show rightB a l = false by simp [rightB, h0])
    have h0' : decide (0 ≤ l) = false := by simpa using h0
    go_enter Try.func33, Try.ntmps33
    go_wp2_with fail
    go_quiet (fail)
    go_wp2
    go_ret
    exact ⟨by rw [hb.out]; rfl, below_drewN ((Below.refl _ _).alloc (Nat.le_refl _) _) _⟩
end Go.Proofs.Ytjdapfimjpbnmaa
end
section
set_option linter.unusedVariables false
set_option linter.unusedSimpArgs false
namespace Go.Proofs.Ytjdapfimjpbnmaa
open Go.RowKit

def bitB (a : Int) (i : Nat) : Bool := a.toNat.testBit (31 - i)
theorem bit_and (a : Int) (i : Nat) (ha : 0 ≤ a ∧ a ≤ 4294967295) (hi : i ≤ 31) : (Go.bits .and .u32 (a / 2 ^ (31 - i)) 1 == 1) = bitB a i := by
  obtain ⟨n, rfl⟩ := Int.eq_ofNat_of_zero_le ha.1
  have h1 : ((n : Int) / 2 ^ (31 - i)) = ((n / 2 ^ (31 - i) : Nat) : Int) := by simp
  have h2 : n / 2 ^ (31 - i) ≤ n := Nat.div_le_self _ _
  rw [h1, show (1 : Int) = ((1 : Nat) : Int) from rfl, u32_and_nat _ _ (by omega) (by omega), Nat.and_one_is_mod, bitB, Int.toNat_natCast, Nat.testBit_eq_decide_div_mod_eq, Bool.eq_iff_iff]
  simp
  omega
theorem half_lt (r j : Nat) (h : r < 2 ^ (j + 1)) (hb : r.testBit j = false) : r < 2 ^ j := by
  rw [Nat.testBit_eq_decide_div_mod_eq] at hb
  have h1 : ¬ r / 2 ^ j % 2 = 1 := by simpa using hb
  have h2 : r / 2 ^ j < 2 := by
    rw [Nat.div_lt_iff_lt_mul (Nat.two_pow_pos j)]
    rw [Nat.pow_succ] at h
    omega
  have h3 : r / 2 ^ j = 0 := by generalize r / 2 ^ j = q at h1 h2; omega
  exact (Nat.div_eq_zero_iff_lt (Nat.two_pow_pos j)).1 h3
theorem half_eq (x a j : Nat) (h : x / 2 ^ (j + 1) = a / 2 ^ (j + 1)) (hb : x.testBit j = a.testBit j) : x / 2 ^ j = a / 2 ^ j := by
  rw [Nat.testBit_eq_decide_div_mod_eq, Nat.testBit_eq_decide_div_mod_eq, decide_eq_decide] at hb
  rw [Nat.pow_succ, ← Nat.div_div_eq_div_mul, ← Nat.div_div_eq_div_mul] at h
  omega
theorem half_ne (x a j n : Nat) (h : x / 2 ^ n = a / 2 ^ n) (hn : n ≤ j) : x.testBit j = a.testBit j := by
  obtain ⟨k, rfl⟩ := Nat.exists_eq_add_of_le hn
  have e : ∀ y : Nat, y.testBit (n + k) = (y / 2 ^ n).testBit k := fun y => by rw [Nat.testBit_div_two_pow, Nat.add_comm]
  rw [e, e, h]

/-- The low bits from 'i' on are noughts. -/
def lowB (a l : Int) (i : Nat) : Prop := a.toNat % 2 ^ (32 - l.toNat) < 2 ^ (32 - i)
theorem rightB_nat (a l : Int) (ha : 0 ≤ a ∧ a ≤ 4294967295) (h0 : 0 ≤ l) (h1 : l ≤ 32) : rightB a l = decide (a.toNat % 2 ^ (32 - l.toNat) = 0) := by
  obtain ⟨n, rfl⟩ := Int.eq_ofNat_of_zero_le ha.1
  obtain ⟨m, rfl⟩ := Int.eq_ofNat_of_zero_le h0
  have e : (32 - (m : Int)).toNat = 32 - m := by omega
  have e2 : ((n : Int) % 2 ^ (32 - m)) = ((n % 2 ^ (32 - m) : Nat) : Int) := by simp
  unfold rightB
  rw [e, e2, Int.toNat_natCast, Int.toNat_natCast, Bool.eq_iff_iff]
  simp
  omega
theorem low_start (a l : Int) : lowB a l l.toNat := Nat.mod_lt _ (Nat.two_pow_pos _)
theorem low_bit (a l : Int) (i : Nat) (hi : i ≤ 31) (hl : l.toNat ≤ i) : (a.toNat % 2 ^ (32 - l.toNat)).testBit (31 - i) = bitB a i := by
  rw [Nat.testBit_mod_two_pow, bitB]
  simp
  intro; omega
theorem low_step (a l : Int) (i : Nat) (hi : i ≤ 31) (hl : l.toNat ≤ i) (h : lowB a l i) (hb : bitB a i = false) : lowB a l (i + 1) := by
  have := half_lt _ (31 - i) (by have : 31 - i + 1 = 32 - i := by omega
                                 rw [this]; exact h) ((low_bit a l i hi hl).trans hb)
  unfold lowB
  rw [show 32 - (i + 1) = 31 - i by omega]
  exact this
theorem low_no (a l : Int) (ha : 0 ≤ a ∧ a ≤ 4294967295) (h0 : 0 ≤ l) (h1 : l ≤ 32) (i : Nat) (hi : i ≤ 31) (hl : l.toNat ≤ i) (hb : bitB a i = true) : rightB a l = false := by
  rw [rightB_nat a l ha h0 h1, decide_eq_false_iff_not]
  intro h
  have := low_bit a l i hi hl
  rw [h, hb] at this
  simp at this
theorem low_end (a l : Int) (ha : 0 ≤ a ∧ a ≤ 4294967295) (h0 : 0 ≤ l) (h1 : l ≤ 32) (h : lowB a l 32) : rightB a l = true := by
  rw [rightB_nat a l ha h0 h1, decide_eq_true_eq]
  unfold lowB at h
  simpa using h

theorem law02_bit (a i : Int) (w : World) (h0 : 0 ≤ i) (h1 : i ≤ 31) (ha : 0 ≤ a ∧ a ≤ 4294967295) : Calls Try.prog 46 #[.int .u32 a, .int .i64 i] w
    fun e w' => e = .returned (.bool (bitB a i.toNat)) ∧ w' = w := by
  have hb := bit_and a i.toNat ha (by omega)
  have h2 : 0 ≤ 31 - i := by omega
  have h3 : 31 - i ≤ 31 := by omega
  have e1 : (31 - i).toNat = 31 - i.toNat := by omega
  have HB := Lib.hid hb
  have E1 := Lib.hid e1
  clear hb e1
  go_enter Try.func46, Try.ntmps46
  go_wp2
  go_ret
  exact ⟨by rw [← HB.out, ← E1.out]; rfl, rfl⟩

theorem law02_Right (a l : Int) (w : World) (ha : 0 ≤ a ∧ a ≤ 4294967295) : Calls Try.prog 31 #[.agg #[.int .u32 a, .int .i64 l]] w
    fun e w' => e = .returned (.bool (rightB a l)) ∧ Below w.heap.size w w' := by
  by_cases h0 : 0 ≤ l
  · by_cases h1 : l ≤ 32
    · have h0' : ¬ l < 0 := by omega
      have h1' : ¬ 32 < l := by omega
      go_enter Try.func31, Try.ntmps31
      go_wp2
      go_loop [3] (fun i => ∃ k : Nat, l.toNat ≤ k ∧ k ≤ 32 ∧ i = .int .i64 k ∧ Hid (lowB a l k)) (fun i => 32 - (intOf i).toNat)
      case atStart => exact ⟨l.toNat, Nat.le_refl _, by omega, by congr 1; omega, low_start a l⟩
      case round =>
        obtain ⟨k, hk, hk2, rfl, hlow⟩ := hrel
        by_cases hlt : k < 32
        · have hk3 : (k : Int) ≤ 31 := by omega
          have hk4 : (0 : Int) ≤ k := by omega
          go_wp2_with fail
          refine (law02_bit _ _ _ hk4 hk3 ha).mono ?_
          rintro e w' ⟨rfl, rfl⟩
          rw [Int.toNat_natCast]
          cases hb : bitB a k with
          | true =>
            have HR := Lib.hid (low_no a l ha h0 h1 k (by omega) hk hb)
            clear hb
            go_wp2
            go_ret
            exact ⟨by rw [HR.out]; rfl, (Below.refl _ _).alloc (Nat.le_refl _) _⟩
          | false =>
            have HR := Lib.hid (low_step a l k (by omega) hk hlow.out hb)
            clear hb
            go_wp2
            go_round
            case rel => exact ⟨k + 1, by omega, by omega, by go_num, HR.out⟩
            case measure => simp [intOf]; omega
        · obtain rfl : k = 32 := by omega
          have HR := Lib.hid (low_end a l ha h0 h1 hlow.out)
          go_wp2
          go_ret
          exact ⟨by rw [HR.out]; rfl, (Below.refl _ _).alloc (Nat.le_refl _) _⟩
    · have HR := Lib.hid (show rightB a l = false by simp [rightB, h1])
      have h0' : ¬ l < 0 := by omega
      have h1' : 32 < l := by omega
      go_enter Try.func31, Try.ntmps31
      go_wp2
      go_ret
      exact ⟨by rw [HR.out]; rfl, (Below.refl _ _).alloc (Nat.le_refl _) _⟩
  · have HR := Lib.hid (show rightB a l = false by simp [rightB, h0])
    have h0' : l < 0 := by omega
    go_enter Try.func31, Try.ntmps31
    go_wp2
    go_ret
    exact ⟨by rw [HR.out]; rfl, (Below.refl _ _).alloc (Nat.le_refl _) _⟩

/-- The first 'i' bits are the same. -/
def sameB (a x : Int) (i : Nat) : Prop := x.toNat / 2 ^ (32 - i) = a.toNat / 2 ^ (32 - i)
theorem same_start (a x : Int) (ha : 0 ≤ a ∧ a ≤ 4294967295) (hx : 0 ≤ x ∧ x ≤ 4294967295) : sameB a x 0 := by
  unfold sameB
  rw [Nat.div_eq_of_lt (by omega), Nat.div_eq_of_lt (by omega)]
theorem same_step (a x : Int) (i : Nat) (hi : i ≤ 31) (h : sameB a x i) (hb : bitB x i = bitB a i) : sameB a x (i + 1) := by
  unfold sameB at *
  rw [show 32 - (i + 1) = 31 - i by omega]
  exact half_eq _ _ _ (by rw [show 31 - i + 1 = 32 - i by omega]; exact h) hb
theorem in_iff (a l x : Int) (ha : 0 ≤ a ∧ a ≤ 4294967295) (hx : 0 ≤ x ∧ x ≤ 4294967295) (h0 : 0 ≤ l) (h1 : l ≤ 32) (hr : rightB a l = true) : inB a l x = true ↔ sameB a x l.toNat := by
  rw [rightB_nat a l ha h0 h1, decide_eq_true_eq] at hr
  obtain ⟨n, rfl⟩ := Int.eq_ofNat_of_zero_le ha.1
  obtain ⟨y, rfl⟩ := Int.eq_ofNat_of_zero_le hx.1
  obtain ⟨m, rfl⟩ := Int.eq_ofNat_of_zero_le h0
  have e : (32 - (m : Int)).toNat = 32 - m := by omega
  simp only [inB, sameB, decide_eq_true_eq, e, Int.toNat_natCast] at *
  have e2 : ((y : Int) % 2 ^ (32 - m)) = ((y % 2 ^ (32 - m) : Nat) : Int) := by simp
  rw [e2]
  have d1 := Nat.div_add_mod n (2 ^ (32 - m))
  have d2 := Nat.div_add_mod y (2 ^ (32 - m))
  have hp := Nat.two_pow_pos (32 - m)
  rw [hr] at d1
  generalize 2 ^ (32 - m) = p at *
  constructor
  · intro h
    have : p * (y / p) = p * (n / p) := by omega
    exact Nat.eq_of_mul_eq_mul_left hp this
  · intro h
    rw [h] at d2
    omega
theorem has_end (a l x : Int) (ha : 0 ≤ a ∧ a ≤ 4294967295) (hx : 0 ≤ x ∧ x ≤ 4294967295) (h0 : 0 ≤ l) (h1 : l ≤ 32) (hr : rightB a l = true) (h : sameB a x l.toNat) : hasB a l x = true := by
  rw [hasB, hr, (in_iff a l x ha hx h0 h1 hr).2 h]; rfl
theorem has_no (a l x : Int) (ha : 0 ≤ a ∧ a ≤ 4294967295) (hx : 0 ≤ x ∧ x ≤ 4294967295) (h0 : 0 ≤ l) (h1 : l ≤ 32) (hr : rightB a l = true) (i : Nat) (hi : i < l.toNat) (h : bitB x i ≠ bitB a i) : hasB a l x = false := by
  cases hh : hasB a l x with
  | false => rfl
  | true =>
    rw [hasB, hr, Bool.true_and, in_iff a l x ha hx h0 h1 hr] at hh
    exact absurd (half_ne _ _ (31 - i) (32 - l.toNat) hh (by omega)) h
end Go.Proofs.Ytjdapfimjpbnmaa
end
section
set_option linter.unusedVariables false
set_option linter.unusedSimpArgs false
namespace Go.Proofs.Ytjdapfimjpbnmaa
open Go.RowKit
/-! Strings and their bytes. -/
theorem loop_eq (b : ByteArray) : ∀ (n i : Nat) (r : List UInt8), i + n = b.size → ByteArray.toList.loop b i r = r.reverse ++ b.data.toList.drop i
  | 0, i, r, h => by
    unfold ByteArray.toList.loop
    have hs : b.data.toList.length = b.size := by rw [Array.length_toList]; rfl
    rw [if_neg (by omega), List.drop_eq_nil_of_le (by omega), List.append_nil]
  | n + 1, i, r, h => by
    unfold ByteArray.toList.loop
    have hs : b.data.toList.length = b.size := by rw [Array.length_toList]; rfl
    have hi : i < b.data.toList.length := by omega
    have hi' : i < b.data.size := by rw [← Array.length_toList]; exact hi
    rw [if_pos (by omega), loop_eq b n (i + 1) _ (by omega), List.drop_eq_getElem_cons hi]
    have : b.get! i = b.data.toList[i] := by
      show b.data.getD i default = _
      simp [hi']
      rw [getElem?_pos b.data i hi']
      rfl
    rw [this]
    simp
theorem toList_eq (b : ByteArray) : b.toList = b.data.toList := by
  have := loop_eq b b.size 0 [] (by omega)
  simpa [ByteArray.toList] using this
theorem str_data (l : List Int) (h : Byte l) : (strOfNums l).data.toList.map (fun b => (b.toNat : Int)) = l := by
  rw [strOfNums_data, List.map_map]
  refine (List.map_congr_left (g := id) fun x hx => ?_).trans (List.map_id _)
  have := h x hx
  simp only [Function.comp, UInt8.toNat_ofNat', id]
  omega
theorem str_inj (l l' : List Int) (h : Byte l) (h' : Byte l') : (strOfNums l).toList = (strOfNums l').toList ↔ l = l' := by
  refine ⟨fun e => ?_, fun e => by rw [e]⟩
  rw [toList_eq, toList_eq] at e
  rw [← str_data l h, ← str_data l' h', e]
end Go.Proofs.Ytjdapfimjpbnmaa
end
section
set_option linter.unusedVariables false
set_option linter.unusedSimpArgs false
namespace Go.Proofs.Ytjdapfimjpbnmaa
open Go.RowKit
/-- Which of the two numbers, the third, the prefix and the picks a kind has. -/
def evHas (kind : Int) : Bool × Bool × Bool × Bool × Bool :=
  (decide (kind ≤ 6), (decide (kind = 3) || decide (7 ≤ kind ∧ kind ≤ 9)), (decide (kind = 2) || (decide (kind = 3) || decide (kind = 7))), (decide (kind = 4) || decide (kind = 5)), decide (kind = 1))
def numB (n : Int) : Bool := decide (0 ≤ n) && decide (n ≤ 65536)
/-- Can an event be written? -/
def evRightB (kind i k n a l : Int) (p : ByteArray) : Bool :=
  decide (0 ≤ kind) && decide (kind ≤ 10) && rightB a l && decide (p.size ≤ 240) && decide (p.size % 6 = 0) && numB i && numB k && numB n &&
    ((evHas kind).1 || i == 0) && ((evHas kind).2.1 || k == 0) && ((evHas kind).2.2.1 || n == 0) && ((evHas kind).2.2.2.1 || (a == 0 && l == 0)) && ((evHas kind).2.2.2.2 || decide (p.size = 0))
def evRest (kind i k n a l : Int) (p : ByteArray) : Bool :=
  ((evHas kind).1 || i == 0) && ((evHas kind).2.1 || k == 0) && ((evHas kind).2.2.1 || n == 0) && ((evHas kind).2.2.2.1 || (a == 0 && l == 0)) && ((evHas kind).2.2.2.2 || decide (p.size = 0))
theorem str_empty (p : ByteArray) : p.toList.isEmpty = decide (p.size = 0) := by
  have h : p.toList.length = p.size := by rw [toList_eq, Array.length_toList]; rfl
  rw [← h]
  cases p.toList <;> simp
abbrev evArr (kind i k n a l : Int) (p : ByteArray) : Array Value := #[.int .i64 kind, .int .i64 i, .int .i64 k, .int .i64 n, .int .u32 a, .int .i64 l, .string p]
theorem law14_neg (kind i k n a l : Int) (p : ByteArray) (w : World) (h : kind < 0) : Calls Try.prog 13 #[.agg (evArr kind i k n a l p)] w fun e w' => e = .returned (.bool false) ∧ Below w.heap.size w w' := by
  have hb0 : Below w.heap.size w (w.alloc (.cells (evArr kind i k n a l p) 30)) := (Below.refl _ _).alloc (Nat.le_refl _) _
  have h1 : decide (kind < 0) = true := decide_eq_true h
  simp only [evArr] at hb0 ⊢
  go_enter Try.func13, Try.ntmps13
  go_wp2
  go_ret
  exact ⟨rfl, hb0⟩
theorem law14_big (kind i k n a l : Int) (p : ByteArray) (w : World) (h : ¬ kind < 0) (h' : kind > 10) : Calls Try.prog 13 #[.agg (evArr kind i k n a l p)] w fun e w' => e = .returned (.bool false) ∧ Below w.heap.size w w' := by
  have hb0 : Below w.heap.size w (w.alloc (.cells (evArr kind i k n a l p) 30)) := (Below.refl _ _).alloc (Nat.le_refl _) _
  have h1 : decide (kind < 0) = false := decide_eq_false h
  have h2 : decide (10 < kind) = true := decide_eq_true h'
  simp only [evArr] at hb0 ⊢
  go_enter Try.func13, Try.ntmps13
  go_wp2
  go_ret
  exact ⟨rfl, hb0⟩
theorem law14_pfx (kind i k n a l : Int) (p : ByteArray) (w : World) (ha : 0 ≤ a ∧ a ≤ 4294967295) (h : 0 ≤ kind ∧ kind ≤ 10) (hr : rightB a l = false) : Calls Try.prog 13 #[.agg (evArr kind i k n a l p)] w fun e w' => e = .returned (.bool false) ∧ Below w.heap.size w w' := by
  have hb0 : Below w.heap.size w (w.alloc (.cells (evArr kind i k n a l p) 30)) := (Below.refl _ _).alloc (Nat.le_refl _) _
  have kE := Blk.new w 30 (evArr kind i k n a l p)
  have h1 : decide (kind < 0) = false := decide_eq_false (by omega)
  have h2 : decide (10 < kind) = false := decide_eq_false (by omega)
  simp only [evArr] at hb0 kE ⊢
  go_enter Try.func13, Try.ntmps13
  go_wp2_with fail
  refine (law02_Right _ _ _ ha).mono ?_
  rintro e w1 ⟨rfl, hb1⟩
  rw [hr]
  have hb := below_step hb0 hb0.size hb1
  replace kE := kE.below' hb1
  clear hb1 hb0 h1 h2
  have hlt := kE.lt
  have x0 := kE.cell 0
  have x1 := kE.cell 1
  have x2 := kE.cell 2
  have x3 := kE.cell 3
  have x4 := kE.cell 4
  have x5 := kE.cell 5
  have x6 := kE.cell 6
  simp only [List.getElem?_toArray, List.getElem?_cons_zero, List.getElem?_cons_succ] at x0 x1 x2 x3 x4 x5 x6
  go_wp2
  go_ret
  exact ⟨rfl, hb⟩
theorem law14_len (kind i k n a l : Int) (p : ByteArray) (w : World) (ha : 0 ≤ a ∧ a ≤ 4294967295) (h : 0 ≤ kind ∧ kind ≤ 10) (hr : rightB a l = true) (hp : 240 < p.size) : Calls Try.prog 13 #[.agg (evArr kind i k n a l p)] w fun e w' => e = .returned (.bool false) ∧ Below w.heap.size w w' := by
  have hb0 : Below w.heap.size w (w.alloc (.cells (evArr kind i k n a l p) 30)) := (Below.refl _ _).alloc (Nat.le_refl _) _
  have kE := Blk.new w 30 (evArr kind i k n a l p)
  have h1 : decide (kind < 0) = false := decide_eq_false (by omega)
  have h2 : decide (10 < kind) = false := decide_eq_false (by omega)
  simp only [evArr] at hb0 kE ⊢
  go_enter Try.func13, Try.ntmps13
  go_wp2_with fail
  refine (law02_Right _ _ _ ha).mono ?_
  rintro e w1 ⟨rfl, hb1⟩
  rw [hr]
  have hb := below_step hb0 hb0.size hb1
  replace kE := kE.below' hb1
  clear hb1 hb0 h1 h2
  have hlt := kE.lt
  have x0 := kE.cell 0
  have x1 := kE.cell 1
  have x2 := kE.cell 2
  have x3 := kE.cell 3
  have x4 := kE.cell 4
  have x5 := kE.cell 5
  have x6 := kE.cell 6
  simp only [List.getElem?_toArray, List.getElem?_cons_zero, List.getElem?_cons_succ] at x0 x1 x2 x3 x4 x5 x6
  have h3 : decide ((240 : Int) < (p.size : Int)) = true := decide_eq_true (by omega)
  go_wp2
  go_ret
  exact ⟨rfl, hb⟩
theorem law14_mod (kind i k n a l : Int) (p : ByteArray) (w : World) (ha : 0 ≤ a ∧ a ≤ 4294967295) (h : 0 ≤ kind ∧ kind ≤ 10) (hr : rightB a l = true) (hp : p.size ≤ 240) (hm : p.size % 6 ≠ 0) : Calls Try.prog 13 #[.agg (evArr kind i k n a l p)] w fun e w' => e = .returned (.bool false) ∧ Below w.heap.size w w' := by
  have hb0 : Below w.heap.size w (w.alloc (.cells (evArr kind i k n a l p) 30)) := (Below.refl _ _).alloc (Nat.le_refl _) _
  have kE := Blk.new w 30 (evArr kind i k n a l p)
  have h1 : decide (kind < 0) = false := decide_eq_false (by omega)
  have h2 : decide (10 < kind) = false := decide_eq_false (by omega)
  simp only [evArr] at hb0 kE ⊢
  go_enter Try.func13, Try.ntmps13
  go_wp2_with fail
  refine (law02_Right _ _ _ ha).mono ?_
  rintro e w1 ⟨rfl, hb1⟩
  rw [hr]
  have hb := below_step hb0 hb0.size hb1
  replace kE := kE.below' hb1
  clear hb1 hb0 h1 h2
  have hlt := kE.lt
  have x0 := kE.cell 0
  have x1 := kE.cell 1
  have x2 := kE.cell 2
  have x3 := kE.cell 3
  have x4 := kE.cell 4
  have x5 := kE.cell 5
  have x6 := kE.cell 6
  simp only [List.getElem?_toArray, List.getElem?_cons_zero, List.getElem?_cons_succ] at x0 x1 x2 x3 x4 x5 x6
  have h3 : decide ((240 : Int) < (p.size : Int)) = false := decide_eq_false (by omega)
  have h4 : (((p.size : Int) % 6) == 0) = false := beq_eq_false_iff_ne.2 (by omega)
  have h5 : (((p.size : Int) % 6) != 0) = true := bne_iff_ne.2 (by omega)
  go_wp2
  go_ret
  exact ⟨rfl, hb⟩
set_option maxHeartbeats 1000000 in
theorem law14_num (kind i k n a l : Int) (p : ByteArray) (w : World) (ha : 0 ≤ a ∧ a ≤ 4294967295) (h : 0 ≤ kind ∧ kind ≤ 10) (hr : rightB a l = true) (hp : p.size ≤ 240) (hm : p.size % 6 = 0) (hn : (numB i && numB k && numB n) = false) : Calls Try.prog 13 #[.agg (evArr kind i k n a l p)] w fun e w' => e = .returned (.bool false) ∧ Below w.heap.size w w' := by
  have hb0 : Below w.heap.size w (w.alloc (.cells (evArr kind i k n a l p) 30)) := (Below.refl _ _).alloc (Nat.le_refl _) _
  have kE := Blk.new w 30 (evArr kind i k n a l p)
  have h1 : decide (kind < 0) = false := decide_eq_false (by omega)
  have h2 : decide (10 < kind) = false := decide_eq_false (by omega)
  simp only [evArr] at hb0 kE ⊢
  go_enter Try.func13, Try.ntmps13
  go_wp2_with fail
  refine (law02_Right _ _ _ ha).mono ?_
  rintro e w1 ⟨rfl, hb1⟩
  rw [hr]
  have hb := below_step hb0 hb0.size hb1
  replace kE := kE.below' hb1
  clear hb1 hb0 h1 h2
  have hlt := kE.lt
  have x0 := kE.cell 0
  have x1 := kE.cell 1
  have x2 := kE.cell 2
  have x3 := kE.cell 3
  have x4 := kE.cell 4
  have x5 := kE.cell 5
  have x6 := kE.cell 6
  simp only [List.getElem?_toArray, List.getElem?_cons_zero, List.getElem?_cons_succ] at x0 x1 x2 x3 x4 x5 x6
  have h3 : decide ((240 : Int) < (p.size : Int)) = false := decide_eq_false (by omega)
  have h4 : (((p.size : Int) % 6) == 0) = true := beq_iff_eq.2 (by omega)
  have h5 : (((p.size : Int) % 6) != 0) = false := bne_eq_false_iff_eq.2 (by omega)
  clear hp hm
  by_cases li : i < 0
  · have d1 : decide (i < 0) = true := decide_eq_true li
    go_wp2
    go_ret
    exact ⟨rfl, hb⟩
  have li : decide (i < 0) = false := decide_eq_false li
  by_cases hi : 65536 < i
  · have d1 : decide (65536 < i) = true := decide_eq_true hi
    go_wp2
    go_ret
    exact ⟨rfl, hb⟩
  have hi : decide (65536 < i) = false := decide_eq_false hi
  by_cases lk : k < 0
  · have d1 : decide (k < 0) = true := decide_eq_true lk
    go_wp2
    go_ret
    exact ⟨rfl, hb⟩
  have lk : decide (k < 0) = false := decide_eq_false lk
  by_cases hk : 65536 < k
  · have d1 : decide (65536 < k) = true := decide_eq_true hk
    go_wp2
    go_ret
    exact ⟨rfl, hb⟩
  have hk : decide (65536 < k) = false := decide_eq_false hk
  by_cases ln : n < 0
  · have d1 : decide (n < 0) = true := decide_eq_true ln
    go_wp2
    go_ret
    exact ⟨rfl, hb⟩
  have ln : decide (n < 0) = false := decide_eq_false ln
  by_cases hn' : 65536 < n
  · have d1 : decide (65536 < n) = true := decide_eq_true hn'
    go_wp2
    go_ret
    exact ⟨rfl, hb⟩
  have hn' : decide (65536 < n) = false := decide_eq_false hn'
  exfalso
  simp only [decide_eq_false_iff_not] at li hi lk hk ln hn'
  simp [numB] at hn
  omega
end Go.Proofs.Ytjdapfimjpbnmaa
end
section
set_option linter.unusedVariables false
set_option linter.unusedSimpArgs false
namespace Go.Proofs.Ytjdapfimjpbnmaa
open Go.RowKit
set_option maxHeartbeats 1000000 in
theorem law14_k0 (i k n a l : Int) (p : ByteArray) (w : World) (ha : 0 ≤ a ∧ a ≤ 4294967295) (hr : rightB a l = true) (h3 : decide ((240 : Int) < (p.size : Int)) = false) (h4 : (((p.size : Int) % 6) == 0) = true) (h5 : (((p.size : Int) % 6) != 0) = false) (li : decide (i < 0) = false) (hi : decide (65536 < i) = false) (lk : decide (k < 0) = false) (hk : decide (65536 < k) = false) (ln : decide (n < 0) = false) (hn : decide (65536 < n) = false) : Calls Try.prog 13 #[.agg (evArr 0 i k n a l p)] w fun e w' => e = .returned (.bool (evRest 0 i k n a l p)) ∧ Below w.heap.size w w' := by
  have hb0 : Below w.heap.size w (w.alloc (.cells (evArr 0 i k n a l p) 30)) := (Below.refl _ _).alloc (Nat.le_refl _) _
  have kE := Blk.new w 30 (evArr 0 i k n a l p)
  simp only [evArr] at hb0 kE ⊢
  go_enter Try.func13, Try.ntmps13
  go_wp2_with fail
  refine (law02_Right _ _ _ ha).mono ?_
  rintro e w1 ⟨rfl, hb1⟩
  rw [hr]
  have hb := below_step hb0 hb0.size hb1
  replace kE := kE.below' hb1
  have hsz : w.heap.size ≤ w1.heap.size := hb.size
  clear hb1 hb0
  have hlt := kE.lt
  have x0 := kE.cell 0
  have x1 := kE.cell 1
  have x2 := kE.cell 2
  have x3 := kE.cell 3
  have x4 := kE.cell 4
  have x5 := kE.cell 5
  have x6 := kE.cell 6
  simp only [List.getElem?_toArray, List.getElem?_cons_zero, List.getElem?_cons_succ] at x0 x1 x2 x3 x4 x5 x6
  clear kE
  go_wp2
  all_goals (go_ret; refine ⟨?_, ((hb.alloc hsz _).alloc (by simp; omega) _)⟩; exact congrArg (fun b => Ending.returned (Value.bool b)) (by simp [evRest, evHas, str_empty, *]))
set_option maxHeartbeats 1000000 in
theorem law14_k1 (i k n a l : Int) (p : ByteArray) (w : World) (ha : 0 ≤ a ∧ a ≤ 4294967295) (hr : rightB a l = true) (h3 : decide ((240 : Int) < (p.size : Int)) = false) (h4 : (((p.size : Int) % 6) == 0) = true) (h5 : (((p.size : Int) % 6) != 0) = false) (li : decide (i < 0) = false) (hi : decide (65536 < i) = false) (lk : decide (k < 0) = false) (hk : decide (65536 < k) = false) (ln : decide (n < 0) = false) (hn : decide (65536 < n) = false) : Calls Try.prog 13 #[.agg (evArr 1 i k n a l p)] w fun e w' => e = .returned (.bool (evRest 1 i k n a l p)) ∧ Below w.heap.size w w' := by
  have hb0 : Below w.heap.size w (w.alloc (.cells (evArr 1 i k n a l p) 30)) := (Below.refl _ _).alloc (Nat.le_refl _) _
  have kE := Blk.new w 30 (evArr 1 i k n a l p)
  simp only [evArr] at hb0 kE ⊢
  go_enter Try.func13, Try.ntmps13
  go_wp2_with fail
  refine (law02_Right _ _ _ ha).mono ?_
  rintro e w1 ⟨rfl, hb1⟩
  rw [hr]
  have hb := below_step hb0 hb0.size hb1
  replace kE := kE.below' hb1
  have hsz : w.heap.size ≤ w1.heap.size := hb.size
  clear hb1 hb0
  have hlt := kE.lt
  have x0 := kE.cell 0
  have x1 := kE.cell 1
  have x2 := kE.cell 2
  have x3 := kE.cell 3
  have x4 := kE.cell 4
  have x5 := kE.cell 5
  have x6 := kE.cell 6
  simp only [List.getElem?_toArray, List.getElem?_cons_zero, List.getElem?_cons_succ] at x0 x1 x2 x3 x4 x5 x6
  clear kE
  go_wp2
  all_goals (go_ret; refine ⟨?_, ((hb.alloc hsz _).alloc (by simp; omega) _)⟩; exact congrArg (fun b => Ending.returned (Value.bool b)) (by simp [evRest, evHas, str_empty, *]))
set_option maxHeartbeats 1000000 in
theorem law14_k2 (i k n a l : Int) (p : ByteArray) (w : World) (ha : 0 ≤ a ∧ a ≤ 4294967295) (hr : rightB a l = true) (h3 : decide ((240 : Int) < (p.size : Int)) = false) (h4 : (((p.size : Int) % 6) == 0) = true) (h5 : (((p.size : Int) % 6) != 0) = false) (li : decide (i < 0) = false) (hi : decide (65536 < i) = false) (lk : decide (k < 0) = false) (hk : decide (65536 < k) = false) (ln : decide (n < 0) = false) (hn : decide (65536 < n) = false) : Calls Try.prog 13 #[.agg (evArr 2 i k n a l p)] w fun e w' => e = .returned (.bool (evRest 2 i k n a l p)) ∧ Below w.heap.size w w' := by
  have hb0 : Below w.heap.size w (w.alloc (.cells (evArr 2 i k n a l p) 30)) := (Below.refl _ _).alloc (Nat.le_refl _) _
  have kE := Blk.new w 30 (evArr 2 i k n a l p)
  simp only [evArr] at hb0 kE ⊢
  go_enter Try.func13, Try.ntmps13
  go_wp2_with fail
  refine (law02_Right _ _ _ ha).mono ?_
  rintro e w1 ⟨rfl, hb1⟩
  rw [hr]
  have hb := below_step hb0 hb0.size hb1
  replace kE := kE.below' hb1
  have hsz : w.heap.size ≤ w1.heap.size := hb.size
  clear hb1 hb0
  have hlt := kE.lt
  have x0 := kE.cell 0
  have x1 := kE.cell 1
  have x2 := kE.cell 2
  have x3 := kE.cell 3
  have x4 := kE.cell 4
  have x5 := kE.cell 5
  have x6 := kE.cell 6
  simp only [List.getElem?_toArray, List.getElem?_cons_zero, List.getElem?_cons_succ] at x0 x1 x2 x3 x4 x5 x6
  clear kE
  go_wp2
  all_goals (go_ret; refine ⟨?_, ((hb.alloc hsz _).alloc (by simp; omega) _)⟩; exact congrArg (fun b => Ending.returned (Value.bool b)) (by simp [evRest, evHas, str_empty, *]))
set_option maxHeartbeats 1000000 in
theorem law14_k3 (i k n a l : Int) (p : ByteArray) (w : World) (ha : 0 ≤ a ∧ a ≤ 4294967295) (hr : rightB a l = true) (h3 : decide ((240 : Int) < (p.size : Int)) = false) (h4 : (((p.size : Int) % 6) == 0) = true) (h5 : (((p.size : Int) % 6) != 0) = false) (li : decide (i < 0) = false) (hi : decide (65536 < i) = false) (lk : decide (k < 0) = false) (hk : decide (65536 < k) = false) (ln : decide (n < 0) = false) (hn : decide (65536 < n) = false) : Calls Try.prog 13 #[.agg (evArr 3 i k n a l p)] w fun e w' => e = .returned (.bool (evRest 3 i k n a l p)) ∧ Below w.heap.size w w' := by
  have hb0 : Below w.heap.size w (w.alloc (.cells (evArr 3 i k n a l p) 30)) := (Below.refl _ _).alloc (Nat.le_refl _) _
  have kE := Blk.new w 30 (evArr 3 i k n a l p)
  simp only [evArr] at hb0 kE ⊢
  go_enter Try.func13, Try.ntmps13
  go_wp2_with fail
  refine (law02_Right _ _ _ ha).mono ?_
  rintro e w1 ⟨rfl, hb1⟩
  rw [hr]
  have hb := below_step hb0 hb0.size hb1
  replace kE := kE.below' hb1
  have hsz : w.heap.size ≤ w1.heap.size := hb.size
  clear hb1 hb0
  have hlt := kE.lt
  have x0 := kE.cell 0
  have x1 := kE.cell 1
  have x2 := kE.cell 2
  have x3 := kE.cell 3
  have x4 := kE.cell 4
  have x5 := kE.cell 5
  have x6 := kE.cell 6
  simp only [List.getElem?_toArray, List.getElem?_cons_zero, List.getElem?_cons_succ] at x0 x1 x2 x3 x4 x5 x6
  clear kE
  go_wp2
  all_goals (go_ret; refine ⟨?_, ((hb.alloc hsz _).alloc (by simp; omega) _)⟩; exact congrArg (fun b => Ending.returned (Value.bool b)) (by simp [evRest, evHas, str_empty, *]))
set_option maxHeartbeats 1000000 in
theorem law14_k4 (i k n a l : Int) (p : ByteArray) (w : World) (ha : 0 ≤ a ∧ a ≤ 4294967295) (hr : rightB a l = true) (h3 : decide ((240 : Int) < (p.size : Int)) = false) (h4 : (((p.size : Int) % 6) == 0) = true) (h5 : (((p.size : Int) % 6) != 0) = false) (li : decide (i < 0) = false) (hi : decide (65536 < i) = false) (lk : decide (k < 0) = false) (hk : decide (65536 < k) = false) (ln : decide (n < 0) = false) (hn : decide (65536 < n) = false) : Calls Try.prog 13 #[.agg (evArr 4 i k n a l p)] w fun e w' => e = .returned (.bool (evRest 4 i k n a l p)) ∧ Below w.heap.size w w' := by
  have hb0 : Below w.heap.size w (w.alloc (.cells (evArr 4 i k n a l p) 30)) := (Below.refl _ _).alloc (Nat.le_refl _) _
  have kE := Blk.new w 30 (evArr 4 i k n a l p)
  simp only [evArr] at hb0 kE ⊢
  go_enter Try.func13, Try.ntmps13
  go_wp2_with fail
  refine (law02_Right _ _ _ ha).mono ?_
  rintro e w1 ⟨rfl, hb1⟩
  rw [hr]
  have hb := below_step hb0 hb0.size hb1
  replace kE := kE.below' hb1
  have hsz : w.heap.size ≤ w1.heap.size := hb.size
  clear hb1 hb0
  have hlt := kE.lt
  have x0 := kE.cell 0
  have x1 := kE.cell 1
  have x2 := kE.cell 2
  have x3 := kE.cell 3
  have x4 := kE.cell 4
  have x5 := kE.cell 5
  have x6 := kE.cell 6
  simp only [List.getElem?_toArray, List.getElem?_cons_zero, List.getElem?_cons_succ] at x0 x1 x2 x3 x4 x5 x6
  clear kE
  go_wp2
  all_goals (go_ret; refine ⟨?_, ((hb.alloc hsz _).alloc (by simp; omega) _)⟩; exact congrArg (fun b => Ending.returned (Value.bool b)) (by simp [evRest, evHas, str_empty, *]))
set_option maxHeartbeats 1000000 in
theorem law14_k5 (i k n a l : Int) (p : ByteArray) (w : World) (ha : 0 ≤ a ∧ a ≤ 4294967295) (hr : rightB a l = true) (h3 : decide ((240 : Int) < (p.size : Int)) = false) (h4 : (((p.size : Int) % 6) == 0) = true) (h5 : (((p.size : Int) % 6) != 0) = false) (li : decide (i < 0) = false) (hi : decide (65536 < i) = false) (lk : decide (k < 0) = false) (hk : decide (65536 < k) = false) (ln : decide (n < 0) = false) (hn : decide (65536 < n) = false) : Calls Try.prog 13 #[.agg (evArr 5 i k n a l p)] w fun e w' => e = .returned (.bool (evRest 5 i k n a l p)) ∧ Below w.heap.size w w' := by
  have hb0 : Below w.heap.size w (w.alloc (.cells (evArr 5 i k n a l p) 30)) := (Below.refl _ _).alloc (Nat.le_refl _) _
  have kE := Blk.new w 30 (evArr 5 i k n a l p)
  simp only [evArr] at hb0 kE ⊢
  go_enter Try.func13, Try.ntmps13
  go_wp2_with fail
  refine (law02_Right _ _ _ ha).mono ?_
  rintro e w1 ⟨rfl, hb1⟩
  rw [hr]
  have hb := below_step hb0 hb0.size hb1
  replace kE := kE.below' hb1
  have hsz : w.heap.size ≤ w1.heap.size := hb.size
  clear hb1 hb0
  have hlt := kE.lt
  have x0 := kE.cell 0
  have x1 := kE.cell 1
  have x2 := kE.cell 2
  have x3 := kE.cell 3
  have x4 := kE.cell 4
  have x5 := kE.cell 5
  have x6 := kE.cell 6
  simp only [List.getElem?_toArray, List.getElem?_cons_zero, List.getElem?_cons_succ] at x0 x1 x2 x3 x4 x5 x6
  clear kE
  go_wp2
  all_goals (go_ret; refine ⟨?_, ((hb.alloc hsz _).alloc (by simp; omega) _)⟩; exact congrArg (fun b => Ending.returned (Value.bool b)) (by simp [evRest, evHas, str_empty, *]))
end Go.Proofs.Ytjdapfimjpbnmaa
end
section
set_option linter.unusedVariables false
set_option linter.unusedSimpArgs false
namespace Go.Proofs.Ytjdapfimjpbnmaa
open Go.RowKit
set_option maxHeartbeats 1000000 in
theorem law14_k6 (i k n a l : Int) (p : ByteArray) (w : World) (ha : 0 ≤ a ∧ a ≤ 4294967295) (hr : rightB a l = true) (h3 : decide ((240 : Int) < (p.size : Int)) = false) (h4 : (((p.size : Int) % 6) == 0) = true) (h5 : (((p.size : Int) % 6) != 0) = false) (li : decide (i < 0) = false) (hi : decide (65536 < i) = false) (lk : decide (k < 0) = false) (hk : decide (65536 < k) = false) (ln : decide (n < 0) = false) (hn : decide (65536 < n) = false) : Calls Try.prog 13 #[.agg (evArr 6 i k n a l p)] w fun e w' => e = .returned (.bool (evRest 6 i k n a l p)) ∧ Below w.heap.size w w' := by
  have hb0 : Below w.heap.size w (w.alloc (.cells (evArr 6 i k n a l p) 30)) := (Below.refl _ _).alloc (Nat.le_refl _) _
  have kE := Blk.new w 30 (evArr 6 i k n a l p)
  simp only [evArr] at hb0 kE ⊢
  go_enter Try.func13, Try.ntmps13
  go_wp2_with fail
  refine (law02_Right _ _ _ ha).mono ?_
  rintro e w1 ⟨rfl, hb1⟩
  rw [hr]
  have hb := below_step hb0 hb0.size hb1
  replace kE := kE.below' hb1
  have hsz : w.heap.size ≤ w1.heap.size := hb.size
  clear hb1 hb0
  have hlt := kE.lt
  have x0 := kE.cell 0
  have x1 := kE.cell 1
  have x2 := kE.cell 2
  have x3 := kE.cell 3
  have x4 := kE.cell 4
  have x5 := kE.cell 5
  have x6 := kE.cell 6
  simp only [List.getElem?_toArray, List.getElem?_cons_zero, List.getElem?_cons_succ] at x0 x1 x2 x3 x4 x5 x6
  clear kE
  go_wp2
  all_goals (go_ret; refine ⟨?_, ((hb.alloc hsz _).alloc (by simp; omega) _)⟩; exact congrArg (fun b => Ending.returned (Value.bool b)) (by simp [evRest, evHas, str_empty, *]))
set_option maxHeartbeats 1000000 in
theorem law14_k7 (i k n a l : Int) (p : ByteArray) (w : World) (ha : 0 ≤ a ∧ a ≤ 4294967295) (hr : rightB a l = true) (h3 : decide ((240 : Int) < (p.size : Int)) = false) (h4 : (((p.size : Int) % 6) == 0) = true) (h5 : (((p.size : Int) % 6) != 0) = false) (li : decide (i < 0) = false) (hi : decide (65536 < i) = false) (lk : decide (k < 0) = false) (hk : decide (65536 < k) = false) (ln : decide (n < 0) = false) (hn : decide (65536 < n) = false) : Calls Try.prog 13 #[.agg (evArr 7 i k n a l p)] w fun e w' => e = .returned (.bool (evRest 7 i k n a l p)) ∧ Below w.heap.size w w' := by
  have hb0 : Below w.heap.size w (w.alloc (.cells (evArr 7 i k n a l p) 30)) := (Below.refl _ _).alloc (Nat.le_refl _) _
  have kE := Blk.new w 30 (evArr 7 i k n a l p)
  simp only [evArr] at hb0 kE ⊢
  go_enter Try.func13, Try.ntmps13
  go_wp2_with fail
  refine (law02_Right _ _ _ ha).mono ?_
  rintro e w1 ⟨rfl, hb1⟩
  rw [hr]
  have hb := below_step hb0 hb0.size hb1
  replace kE := kE.below' hb1
  have hsz : w.heap.size ≤ w1.heap.size := hb.size
  clear hb1 hb0
  have hlt := kE.lt
  have x0 := kE.cell 0
  have x1 := kE.cell 1
  have x2 := kE.cell 2
  have x3 := kE.cell 3
  have x4 := kE.cell 4
  have x5 := kE.cell 5
  have x6 := kE.cell 6
  simp only [List.getElem?_toArray, List.getElem?_cons_zero, List.getElem?_cons_succ] at x0 x1 x2 x3 x4 x5 x6
  clear kE
  go_wp2
  all_goals (go_ret; refine ⟨?_, ((hb.alloc hsz _).alloc (by simp; omega) _)⟩; exact congrArg (fun b => Ending.returned (Value.bool b)) (by simp [evRest, evHas, str_empty, *]))
set_option maxHeartbeats 1000000 in
theorem law14_k8 (i k n a l : Int) (p : ByteArray) (w : World) (ha : 0 ≤ a ∧ a ≤ 4294967295) (hr : rightB a l = true) (h3 : decide ((240 : Int) < (p.size : Int)) = false) (h4 : (((p.size : Int) % 6) == 0) = true) (h5 : (((p.size : Int) % 6) != 0) = false) (li : decide (i < 0) = false) (hi : decide (65536 < i) = false) (lk : decide (k < 0) = false) (hk : decide (65536 < k) = false) (ln : decide (n < 0) = false) (hn : decide (65536 < n) = false) : Calls Try.prog 13 #[.agg (evArr 8 i k n a l p)] w fun e w' => e = .returned (.bool (evRest 8 i k n a l p)) ∧ Below w.heap.size w w' := by
  have hb0 : Below w.heap.size w (w.alloc (.cells (evArr 8 i k n a l p) 30)) := (Below.refl _ _).alloc (Nat.le_refl _) _
  have kE := Blk.new w 30 (evArr 8 i k n a l p)
  simp only [evArr] at hb0 kE ⊢
  go_enter Try.func13, Try.ntmps13
  go_wp2_with fail
  refine (law02_Right _ _ _ ha).mono ?_
  rintro e w1 ⟨rfl, hb1⟩
  rw [hr]
  have hb := below_step hb0 hb0.size hb1
  replace kE := kE.below' hb1
  have hsz : w.heap.size ≤ w1.heap.size := hb.size
  clear hb1 hb0
  have hlt := kE.lt
  have x0 := kE.cell 0
  have x1 := kE.cell 1
  have x2 := kE.cell 2
  have x3 := kE.cell 3
  have x4 := kE.cell 4
  have x5 := kE.cell 5
  have x6 := kE.cell 6
  simp only [List.getElem?_toArray, List.getElem?_cons_zero, List.getElem?_cons_succ] at x0 x1 x2 x3 x4 x5 x6
  clear kE
  go_wp2
  all_goals (go_ret; refine ⟨?_, ((hb.alloc hsz _).alloc (by simp; omega) _)⟩; exact congrArg (fun b => Ending.returned (Value.bool b)) (by simp [evRest, evHas, str_empty, *]))
set_option maxHeartbeats 1000000 in
theorem law14_k9 (i k n a l : Int) (p : ByteArray) (w : World) (ha : 0 ≤ a ∧ a ≤ 4294967295) (hr : rightB a l = true) (h3 : decide ((240 : Int) < (p.size : Int)) = false) (h4 : (((p.size : Int) % 6) == 0) = true) (h5 : (((p.size : Int) % 6) != 0) = false) (li : decide (i < 0) = false) (hi : decide (65536 < i) = false) (lk : decide (k < 0) = false) (hk : decide (65536 < k) = false) (ln : decide (n < 0) = false) (hn : decide (65536 < n) = false) : Calls Try.prog 13 #[.agg (evArr 9 i k n a l p)] w fun e w' => e = .returned (.bool (evRest 9 i k n a l p)) ∧ Below w.heap.size w w' := by
  have hb0 : Below w.heap.size w (w.alloc (.cells (evArr 9 i k n a l p) 30)) := (Below.refl _ _).alloc (Nat.le_refl _) _
  have kE := Blk.new w 30 (evArr 9 i k n a l p)
  simp only [evArr] at hb0 kE ⊢
  go_enter Try.func13, Try.ntmps13
  go_wp2_with fail
  refine (law02_Right _ _ _ ha).mono ?_
  rintro e w1 ⟨rfl, hb1⟩
  rw [hr]
  have hb := below_step hb0 hb0.size hb1
  replace kE := kE.below' hb1
  have hsz : w.heap.size ≤ w1.heap.size := hb.size
  clear hb1 hb0
  have hlt := kE.lt
  have x0 := kE.cell 0
  have x1 := kE.cell 1
  have x2 := kE.cell 2
  have x3 := kE.cell 3
  have x4 := kE.cell 4
  have x5 := kE.cell 5
  have x6 := kE.cell 6
  simp only [List.getElem?_toArray, List.getElem?_cons_zero, List.getElem?_cons_succ] at x0 x1 x2 x3 x4 x5 x6
  clear kE
  go_wp2
  all_goals (go_ret; refine ⟨?_, ((hb.alloc hsz _).alloc (by simp; omega) _)⟩; exact congrArg (fun b => Ending.returned (Value.bool b)) (by simp [evRest, evHas, str_empty, *]))
set_option maxHeartbeats 1000000 in
theorem law14_k10 (i k n a l : Int) (p : ByteArray) (w : World) (ha : 0 ≤ a ∧ a ≤ 4294967295) (hr : rightB a l = true) (h3 : decide ((240 : Int) < (p.size : Int)) = false) (h4 : (((p.size : Int) % 6) == 0) = true) (h5 : (((p.size : Int) % 6) != 0) = false) (li : decide (i < 0) = false) (hi : decide (65536 < i) = false) (lk : decide (k < 0) = false) (hk : decide (65536 < k) = false) (ln : decide (n < 0) = false) (hn : decide (65536 < n) = false) : Calls Try.prog 13 #[.agg (evArr 10 i k n a l p)] w fun e w' => e = .returned (.bool (evRest 10 i k n a l p)) ∧ Below w.heap.size w w' := by
  have hb0 : Below w.heap.size w (w.alloc (.cells (evArr 10 i k n a l p) 30)) := (Below.refl _ _).alloc (Nat.le_refl _) _
  have kE := Blk.new w 30 (evArr 10 i k n a l p)
  simp only [evArr] at hb0 kE ⊢
  go_enter Try.func13, Try.ntmps13
  go_wp2_with fail
  refine (law02_Right _ _ _ ha).mono ?_
  rintro e w1 ⟨rfl, hb1⟩
  rw [hr]
  have hb := below_step hb0 hb0.size hb1
  replace kE := kE.below' hb1
  have hsz : w.heap.size ≤ w1.heap.size := hb.size
  clear hb1 hb0
  have hlt := kE.lt
  have x0 := kE.cell 0
  have x1 := kE.cell 1
  have x2 := kE.cell 2
  have x3 := kE.cell 3
  have x4 := kE.cell 4
  have x5 := kE.cell 5
  have x6 := kE.cell 6
  simp only [List.getElem?_toArray, List.getElem?_cons_zero, List.getElem?_cons_succ] at x0 x1 x2 x3 x4 x5 x6
  clear kE
  go_wp2
  all_goals (go_ret; refine ⟨?_, ((hb.alloc hsz _).alloc (by simp; omega) _)⟩; exact congrArg (fun b => Ending.returned (Value.bool b)) (by simp [evRest, evHas, str_empty, *]))
end Go.Proofs.Ytjdapfimjpbnmaa
end
section
set_option linter.unusedVariables false
set_option linter.unusedSimpArgs false
namespace Go.Proofs.Ytjdapfimjpbnmaa
open Go.RowKit
theorem law14_Right (kind i k n a l : Int) (p : ByteArray) (w : World) (ha : 0 ≤ a ∧ a ≤ 4294967295) : Calls Try.prog 13 #[.agg (evArr kind i k n a l p)] w fun e w' => e = .returned (.bool (evRightB kind i k n a l p)) ∧ Below w.heap.size w w' := by
  have no : ∀ {b : Bool}, Calls Try.prog 13 #[.agg (evArr kind i k n a l p)] w (fun e w' => e = .returned (.bool false) ∧ Below w.heap.size w w') → b = false → Calls Try.prog 13 #[.agg (evArr kind i k n a l p)] w (fun e w' => e = .returned (.bool b) ∧ Below w.heap.size w w') := fun h e => by rw [e]; exact h
  by_cases h1 : kind < 0
  · exact no (law14_neg _ _ _ _ _ _ _ w h1) (by simp [evRightB, show ¬ 0 ≤ kind by omega])
  by_cases h2 : kind > 10
  · exact no (law14_big _ _ _ _ _ _ _ w h1 h2) (by simp [evRightB, show ¬ kind ≤ 10 by omega])
  have hk : 0 ≤ kind ∧ kind ≤ 10 := by omega
  cases hr : rightB a l with
  | false => exact no (law14_pfx _ _ _ _ _ _ _ w ha hk hr) (by simp [evRightB, hr])
  | true =>
  by_cases h3 : p.size ≤ 240
  case neg => exact no (law14_len _ _ _ _ _ _ _ w ha hk hr (by omega)) (by simp [evRightB, h3])
  by_cases h4 : p.size % 6 = 0
  case neg => exact no (law14_mod _ _ _ _ _ _ _ w ha hk hr h3 h4) (by simp [evRightB, h4])
  cases h5 : (numB i && numB k && numB n) with
  | false => exact no (law14_num _ _ _ _ _ _ _ w ha hk hr h3 h4 h5) (by simp only [Bool.and_eq_false_iff] at h5; rcases h5 with (h5 | h5) | h5 <;> simp [evRightB, h5])
  | true =>
  have h5' := h5
  simp only [Bool.and_eq_true] at h5
  obtain ⟨⟨hi, hk'⟩, hn⟩ := h5
  have e : evRightB kind i k n a l p = evRest kind i k n a l p := by
    unfold evRightB evRest
    simp [hk.1, hk.2, hr, h3, h4, hi, hk', hn]
  rw [e]
  simp only [numB, Bool.and_eq_true, decide_eq_true_eq] at hi hk' hn
  have a3 : decide ((240 : Int) < (p.size : Int)) = false := decide_eq_false (by omega)
  have a4 : (((p.size : Int) % 6) == 0) = true := beq_iff_eq.2 (by omega)
  have a5 : (((p.size : Int) % 6) != 0) = false := bne_eq_false_iff_eq.2 (by omega)
  have b1 : decide (i < 0) = false := decide_eq_false (by omega)
  have b2 : decide (65536 < i) = false := decide_eq_false (by omega)
  have b3 : decide (k < 0) = false := decide_eq_false (by omega)
  have b4 : decide (65536 < k) = false := decide_eq_false (by omega)
  have b5 : decide (n < 0) = false := decide_eq_false (by omega)
  have b6 : decide (65536 < n) = false := decide_eq_false (by omega)
  clear e h5' hi hk' hn no h1 h2
  rcases (show kind = 0 ∨ kind = 1 ∨ kind = 2 ∨ kind = 3 ∨ kind = 4 ∨ kind = 5 ∨ kind = 6 ∨ kind = 7 ∨ kind = 8 ∨ kind = 9 ∨ kind = 10 by omega) with rfl | rfl | rfl | rfl | rfl | rfl | rfl | rfl | rfl | rfl | rfl
  · exact law14_k0 i k n a l p w ha hr a3 a4 a5 b1 b2 b3 b4 b5 b6
  · exact law14_k1 i k n a l p w ha hr a3 a4 a5 b1 b2 b3 b4 b5 b6
  · exact law14_k2 i k n a l p w ha hr a3 a4 a5 b1 b2 b3 b4 b5 b6
  · exact law14_k3 i k n a l p w ha hr a3 a4 a5 b1 b2 b3 b4 b5 b6
  · exact law14_k4 i k n a l p w ha hr a3 a4 a5 b1 b2 b3 b4 b5 b6
  · exact law14_k5 i k n a l p w ha hr a3 a4 a5 b1 b2 b3 b4 b5 b6
  · exact law14_k6 i k n a l p w ha hr a3 a4 a5 b1 b2 b3 b4 b5 b6
  · exact law14_k7 i k n a l p w ha hr a3 a4 a5 b1 b2 b3 b4 b5 b6
  · exact law14_k8 i k n a l p w ha hr a3 a4 a5 b1 b2 b3 b4 b5 b6
  · exact law14_k9 i k n a l p w ha hr a3 a4 a5 b1 b2 b3 b4 b5 b6
  · exact law14_k10 i k n a l p w ha hr a3 a4 a5 b1 b2 b3 b4 b5 b6
end Go.Proofs.Ytjdapfimjpbnmaa
end
section
set_option linter.unusedVariables false
set_option linter.unusedSimpArgs false
namespace Go.Proofs.Ytjdapfimjpbnmaa
open Go.RowKit
/-! A number's four bytes. -/
def four (n : Int) : List Int := [n / 16777216 % 256, n / 65536 % 256, n / 256 % 256, n % 256]
def cat4 (a b c d : Int) : Int := ((a * 256 + b) * 256 + c) * 256 + d
theorem cat4_four (n : Int) (h : 0 ≤ n ∧ n ≤ 4294967295) : cat4 (n / 16777216 % 256) (n / 65536 % 256) (n / 256 % 256) (n % 256) = n := by unfold cat4; omega
theorem four_cat4 (a b c d : Int) (ha : 0 ≤ a ∧ a ≤ 255) (hb : 0 ≤ b ∧ b ≤ 255) (hc : 0 ≤ c ∧ c ≤ 255) (hd : 0 ≤ d ∧ d ≤ 255) : four (cat4 a b c d) = [a, b, c, d] := by
  unfold four cat4
  congr 1
  · omega
  congr 1
  · omega
  congr 1
  · omega
  congr 1
  omega
theorem cat4_bd (a b c d : Int) (ha : 0 ≤ a ∧ a ≤ 255) (hb : 0 ≤ b ∧ b ≤ 255) (hc : 0 ≤ c ∧ c ≤ 255) (hd : 0 ≤ d ∧ d ≤ 255) : 0 ≤ cat4 a b c d ∧ cat4 a b c d ≤ 4294967295 := by unfold cat4; omega
theorem four_byte (n : Int) : Byte (four n) := by
  intro x hx
  simp only [four, List.mem_cons, List.not_mem_nil, or_false] at hx
  omega
theorem four_len (n : Int) : (four n).length = 4 := rfl
/-- A byte or'd below a number whose low byte is nought. -/
theorem or_add_nat (n c : Nat) (hc : c < 256) : n * 256 ||| c = n * 256 + c := by
  have := Nat.two_pow_add_eq_or_of_lt (i := 8) (b := c) hc n
  rw [show (2 : Nat) ^ 8 * n = n * 256 by omega] at this
  exact this.symm
theorem or_byte32 (n c : Int) (hn : 0 ≤ n) (hb : n * 256 + 255 ≤ 4294967295) (hc : 0 ≤ c ∧ c ≤ 255) : Go.bits .or .u32 (n * 256) c = n * 256 + c := by
  obtain ⟨n, rfl⟩ := Int.eq_ofNat_of_zero_le hn
  obtain ⟨c, rfl⟩ := Int.eq_ofNat_of_zero_le hc.1
  rw [show ((n : Int) * 256) = ((n * 256 : Nat) : Int) by simp, u32_or_nat _ _ (by omega) (by omega), or_add_nat n c (by omega)]
  simp
theorem or_byte16 (n c : Int) (hn : 0 ≤ n) (hb : n * 256 + 255 ≤ 65535) (hc : 0 ≤ c ∧ c ≤ 255) : Go.bits .or .u16 (n * 256) c = n * 256 + c := by
  obtain ⟨n, rfl⟩ := Int.eq_ofNat_of_zero_le hn
  obtain ⟨c, rfl⟩ := Int.eq_ofNat_of_zero_le hc.1
  rw [show ((n : Int) * 256) = ((n * 256 : Nat) : Int) by simp, u16_or_nat _ _ (by omega) (by omega), or_add_nat n c (by omega)]
  simp
end Go.Proofs.Ytjdapfimjpbnmaa
end
section
set_option linter.unusedVariables false
set_option linter.unusedSimpArgs false
namespace Go.Proofs.Ytjdapfimjpbnmaa
open Go.RowKit
/-! What a datagram says, in plain lists. -/
def byteB (l : List Int) : Bool := l.all fun x => decide (0 ≤ x) && decide (x ≤ 255)
theorem byteB_iff (l : List Int) : byteB l = true ↔ Byte l := by simp [byteB, Byte, List.all_eq_true]
def valB (l : List Int) : Int := l.foldl (fun n c => n * 256 + c) 0
/-- Can something be told? -/
def updB (a l id s m : Int) : Bool := rightB a l && decide (s ≤ 1073741824) && (if m = 65535 then decide (id = 0 ∧ s = 0) else decide (id ≠ 0))
def szB (n : Int) : Int := (n + 7) / 8
def padB (l : List Int) : List Int := (l ++ [0, 0, 0, 0]).take 4
def oneM (l : List Int) (id : Int) : Int × Int × Int × Int × Int × Bool :=
  if l.length < 7 then (0, 0, 0, 0, 0, false)
  else if 32 < l.getD 0 0 then (0, 0, 0, 0, 0, false)
  else if (l.length : Int) ≠ 7 + szB (l.getD 0 0) then (0, 0, 0, 0, 0, false)
  else
    (valB (padB (l.drop 7)), l.getD 0 0, (if valB ((l.drop 5).take 2) = 65535 then 0 else id), valB ((l.drop 1).take 4), valB ((l.drop 5).take 2),
      updB (valB (padB (l.drop 7))) (l.getD 0 0) (if valB ((l.drop 5).take 2) = 65535 then 0 else id) (valB ((l.drop 1).take 4)) (valB ((l.drop 5).take 2)))
theorem valB_snoc (l : List Int) (x : Int) : valB (l ++ [x]) = valB l * 256 + x := by simp [valB]
theorem Byte.take {l : List Int} (h : Byte l) (n : Nat) : Byte (l.take n) := fun x hx => h x (List.mem_of_mem_take hx)
theorem Byte.drop {l : List Int} (h : Byte l) (n : Nat) : Byte (l.drop n) := fun x hx => h x (List.mem_of_mem_drop hx)
theorem Byte.app {l l' : List Int} (h : Byte l) (h' : Byte l') : Byte (l ++ l') := fun x hx => by
  rcases List.mem_append.1 hx with hx | hx
  · exact h x hx
  · exact h' x hx
theorem pow256 (n : Nat) : (1 : Int) ≤ 256 ^ n := by
  induction n with
  | zero => simp
  | succ n ih => rw [Int.pow_succ]; omega
theorem fold_bd : ∀ (l : List Int) (a : Int), Byte l → 0 ≤ a → 0 ≤ l.foldl (fun n c => n * 256 + c) a ∧ l.foldl (fun n c => n * 256 + c) a < (a + 1) * 256 ^ l.length
  | [], a, _, h => by simp; omega
  | x :: l, a, hb, h => by
    have h2 := hb x (by simp)
    have ih := fold_bd l (a * 256 + x) (fun y hy => hb y (by simp [hy])) (by omega)
    refine ⟨ih.1, Int.lt_of_lt_of_le ih.2 ?_⟩
    rw [List.length_cons, Int.pow_succ, Int.mul_comm (256 ^ l.length) 256, ← Int.mul_assoc]
    exact Int.mul_le_mul_of_nonneg_right (by omega) (by have := pow256 l.length; omega)
theorem valB_bd (l : List Int) (h : Byte l) : 0 ≤ valB l ∧ valB l < 256 ^ l.length := by
  have := fold_bd l 0 h (by omega)
  rw [Int.zero_add, Int.one_mul] at this
  exact this
theorem valB_bd4 (l : List Int) (h : Byte l) (hl : l.length ≤ 4) : 0 ≤ valB l ∧ valB l ≤ 4294967295 := by
  have h1 := valB_bd l h
  have h2 : (256 : Int) ^ l.length ≤ 256 ^ 4 := by
    rcases (show l.length = 0 ∨ l.length = 1 ∨ l.length = 2 ∨ l.length = 3 ∨ l.length = 4 by omega) with e | e | e | e | e <;> rw [e] <;> decide
  omega
theorem valB_bd2 (l : List Int) (h : Byte l) (hl : l.length ≤ 2) : 0 ≤ valB l ∧ valB l ≤ 65535 := by
  have h1 := valB_bd l h
  have h2 : (256 : Int) ^ l.length ≤ 256 ^ 2 := by
    rcases (show l.length = 0 ∨ l.length = 1 ∨ l.length = 2 by omega) with e | e | e <;> rw [e] <;> decide
  omega
theorem Byte.pad {l : List Int} (h : Byte l) : Byte (padB l) := (h.app (by intro x hx; simp at hx; omega)).take 4
theorem padB_len (l : List Int) : (padB l).length = 4 := by simp [padB]
end Go.Proofs.Ytjdapfimjpbnmaa
end
section
set_option linter.unusedVariables false
set_option linter.unusedSimpArgs false
namespace Go.Proofs.Ytjdapfimjpbnmaa
open Go.RowKit Go.ChangeShapes Go.WideShapes Go.Deep

/-- What is known of the cells of a value that came in and could be read: their kinds, and that all sizes are within the reach. -/
def Op (P : Program) (W : World) : Nat → TypeId → List Value → Prop
  | 0, _, _ => False
  | n + 1, t, cs =>
    match P.underlying t with
    | some .bool => ∃ b, cs = [.bool b]
    | some (.int k) => ∃ x, cs = [.int k x] ∧ (Lit.int k x).wf = true
    | some .string => ∃ s : ByteArray, cs = [.string s] ∧ s.size ≤ 140737488351232
    | some (.slice e) => cs = [.slice none 0 0] ∨ ∃ (a : Addr) (len cap : Nat), cs = [.slice (some a) len cap] ∧ len ≤ cap ∧ len * P.bytesOf e ≤ 140737488351232 ∧
        ∀ i, i < len → ∃ cs', W.cells? 0 (a.add (i * P.cellsOf e)) (P.cellsOf e) = some cs' ∧ Op P W n e cs'
    | some (.struct fs) => cs.length = P.cellsOf t ∧ ∀ (i : Nat) (f : Field), fs[i]? = some f → Op P W n f.type ((cs.drop f.offset).take (P.cellsOf f.type))
    | some (.array k e) => cs.length = P.cellsOf t ∧ ∀ i, i < k → Op P W n e ((cs.drop (i * P.cellsOf e)).take (P.cellsOf e))
    | _ => True

section
variable {H : Type} {enc : TypeId × Value → H} {P : Program} {W : World}
theorem weightsAll_mem {e : TypeId} : ∀ {l : List (DataW H)} {i : Nat} {d : DataW H}, l[i]? = some d → ∀ n ∈ d.weights P e, n ∈ DataW.weightsAll P e l
  | d0 :: l, 0, d, h, n, hn => by
    simp only [List.getElem?_cons_zero, Option.some.injEq] at h
    subst h
    simp only [DataW.weightsAll, List.mem_append]
    exact .inl hn
  | d0 :: l, i + 1, d, h, n, hn => by
    simp only [List.getElem?_cons_succ] at h
    simp only [DataW.weightsAll, List.mem_append]
    exact .inr (weightsAll_mem h n hn)
  | [], _, _, h, _, _ => by simp at h

theorem Op.of_trod {spare : Nat → Bool} {held : Bool} : ∀ (n : Nat) (t : TypeId) (cs : List Value) (d : DataW H) (ps : List MemPlace), DataW.trod enc P W 0 spare held n t cs = some (d, ps) →
    (∀ m ∈ d.weights P t, m ≤ 140737488351232) → Op P W n t cs := by
  intro n
  induction n with
  | zero => intro t cs d ps h; simp [DataW.trod] at h
  | succ n ih =>
    intro t cs d ps h hw
    unfold Op
    cases hu : P.underlying t with
    | none => trivial
    | some u =>
      cases u with
      | bool =>
        obtain ⟨b, rfl, _⟩ := DataW.trod_bool hu h
        exact ⟨b, rfl⟩
      | int k =>
        obtain ⟨x, rfl, _, hx⟩ := DataW.trod_int hu h
        exact ⟨x, rfl, hx⟩
      | string =>
        obtain ⟨s, rfl, hx, hs⟩ := DataW.trod_string hu h
        obtain ⟨rfl, -⟩ := Prod.mk.inj hx
        refine ⟨s, rfl, ?_⟩
        have := hw s.data.toList.length (by simp [DataW.weights])
        simpa using this
      | slice e =>
        rcases DataW.trod_slice hu h with ⟨rfl, _⟩ | ⟨a, len, cap, elems, rest, m, hn, rfl, hx, hb, hl, hm, hlen, hel, _⟩
        · exact .inl rfl
        · obtain rfl : m = n := by omega
          obtain ⟨rfl, -⟩ := Prod.mk.inj hx
          simp only [DataW.weights, hu, List.mem_cons, List.mem_append] at hw
          refine .inr ⟨a, len, cap, rfl, hl, ?_, fun i hi => ?_⟩
          · have h1 := hw _ (.inl rfl)
            simp only [List.length_map] at h1
            exact Nat.le_trans (Nat.mul_le_mul_right _ (by omega)) h1
          · have h1 := hel i hi
            rw [List.getElem?_eq_getElem (by omega)] at h1
            obtain ⟨cs', h2, h3⟩ := Option.bind_eq_some_iff.mp h1
            refine ⟨cs', h2, ih e cs' _ _ h3 fun m hm => hw m (.inr (.inl ?_))⟩
            exact weightsAll_mem (i := i) (by simp [List.getElem?_eq_getElem (show i < elems.length by omega)]) m hm
      | struct fs =>
        obtain ⟨xs, m, hn, hx, hl, hxl, hg⟩ := DataW.trod_struct hu h
        obtain rfl : m = n := by omega
        obtain ⟨rfl, -⟩ := Prod.mk.inj hx
        simp only [DataW.weights, hu] at hw
        refine ⟨hl, fun i f hf => ?_⟩
        have h1 := hg i f hf
        have hi : i < fs.size := (Array.getElem?_eq_some_iff.1 hf).1
        rw [List.getElem?_eq_getElem (by omega)] at h1
        refine ih f.type _ _ _ h1 fun m hm => hw m (DataW.weights_mem_each (j := i) (t := f.type) (d := (xs[i]'(by omega)).1) ?_ ?_ m hm)
        · simp [hf]
        · simp [List.getElem?_eq_getElem (show i < xs.length by omega)]
      | array k e =>
        obtain ⟨xs, m, hn, hx, hl, hxl, hg⟩ := DataW.trod_array hu h
        obtain rfl : m = n := by omega
        obtain ⟨rfl, -⟩ := Prod.mk.inj hx
        simp only [DataW.weights, hu] at hw
        refine ⟨hl, fun i hi => ?_⟩
        have h1 := hg i hi
        rw [List.getElem?_eq_getElem (by omega)] at h1
        exact ih e _ _ _ h1 fun m hm => hw m (weightsAll_mem (i := i) (by simp [List.getElem?_eq_getElem (show i < xs.length by omega)]) m hm)
      | _ => trivial

/-- The form in which a row hands it on. -/
def Opens (P : Program) (W : World) (t : TypeId) (v : Value) : Prop := ∃ n, Op P W n t v.cells.toList
theorem Opens.of_trod {spare : Nat → Bool} {held : Bool} {t : TypeId} {v : Value} {d : DataW H} {ps : List MemPlace} {ts : List TypeId} {ds : List (DataW H)} {j : Nat}
    (h : DataW.Trod enc P W 0 spare held t v d ps) (hsz : (DataW.weightsEach P ts ds).all (· ≤ reachBytes) = true) (ht : ts[j]? = some t) (hd : ds[j]? = some d) : Opens P W t v := by
  obtain ⟨n, h⟩ := h
  refine ⟨n, Op.of_trod n t _ d ps h fun m hm => ?_⟩
  have := List.all_eq_true.1 hsz m (DataW.weights_mem_each ht hd m hm)
  exact of_decide_eq_true this
end
/-- A choice for each place of a list. -/
theorem exists_list {α : Type} {p : Nat → α → Prop} : ∀ {n : Nat}, (∀ i, i < n → ∃ a, p i a) → ∃ l : List α, l.length = n ∧ ∀ i (h : i < l.length), p i l[i]
  | 0, _ => ⟨[], rfl, fun i h => by simp at h⟩
  | n + 1, h => by
    obtain ⟨l, hl, hp⟩ := exists_list (n := n) fun i hi => h i (by omega)
    obtain ⟨a, ha⟩ := h n (by omega)
    refine ⟨l ++ [a], by simp [hl], fun i hi => ?_⟩
    rw [List.getElem_append]
    split
    · exact hp i _
    · rename_i h1
      have : i = n := by simp at hi; omega
      subst this
      simpa [hl] using ha
end Go.Proofs.Ytjdapfimjpbnmaa
end
section
set_option linter.unusedVariables false
set_option linter.unusedSimpArgs false
namespace Go.Proofs.Ytjdapfimjpbnmaa
open Go.RowKit Go.ChangeShapes Go.WideShapes

theorem Op.int {P : Program} {W : World} {n : Nat} {t : TypeId} {k : IntKind} {cs : List Value} (hu : P.underlying t = some (.int k)) (h : Op P W n t cs) : ∃ x, cs = [.int k x] ∧ (Lit.int k x).wf = true := by
  cases n with
  | zero => exact h.elim
  | succ n => unfold Op at h; rw [hu] at h; exact h
theorem Op.bool {P : Program} {W : World} {n : Nat} {t : TypeId} {cs : List Value} (hu : P.underlying t = some .bool) (h : Op P W n t cs) : ∃ b, cs = [.bool b] := by
  cases n with
  | zero => exact h.elim
  | succ n => unfold Op at h; rw [hu] at h; exact h
theorem Op.struct {P : Program} {W : World} {n : Nat} {t : TypeId} {fs : Array Field} {cs : List Value} (hu : P.underlying t = some (.struct fs)) (h : Op P W n t cs) :
    cs.length = P.cellsOf t ∧ ∃ m, ∀ (i : Nat) (f : Field), fs[i]? = some f → Op P W m f.type ((cs.drop f.offset).take (P.cellsOf f.type)) := by
  cases n with
  | zero => exact h.elim
  | succ n => unfold Op at h; rw [hu] at h; exact ⟨h.1, n, h.2⟩

/-- A slice of plain cells: what each element is. -/
theorem Opens.slice {P : Program} {W : World} {t e : TypeId} {A : Option Addr} {n c : Nat} {B : Nat} (hu : P.underlying t = some (.slice e)) (hB : P.bytesOf e = B) (h : Opens P W t (.slice A n c)) :
    n * B ≤ 140737488351232 ∧ (0 < n → ∃ a, A = some a ∧ ∀ i, i < n → ∃ m cs', W.cells? 0 (a.add (i * P.cellsOf e)) (P.cellsOf e) = some cs' ∧ Op P W m e cs') := by
  obtain ⟨f, h⟩ := h
  cases f with
  | zero => exact h.elim
  | succ f =>
    unfold Op at h
    rw [hu] at h
    simp only [Value.cells] at h
    rcases h with h | ⟨a, len, cap, h, hlc, hlen, hel⟩
    · simp at h
      obtain ⟨rfl, rfl, rfl⟩ := h
      exact ⟨by simp, fun h => absurd h (by simp)⟩
    · simp at h
      obtain ⟨rfl, rfl, rfl⟩ := h
      rw [hB] at hlen
      refine ⟨hlen, fun _ => ⟨a, rfl, fun i hi => ?_⟩⟩
      obtain ⟨cs', h1, h2⟩ := hel i hi
      exact ⟨f, cs', h1, h2⟩
/-- A slice whose elements have one cell each, read as a row: 'p' tells what an element is, 'g' its cell. -/
theorem Opens.row1 {P : Program} {W : World} {t e : TypeId} {A : Option Addr} {n c : Nat} {B : Nat} {α : Type} (g : α → Value) (p : α → Prop) (hu : P.underlying t = some (.slice e)) (hB : P.bytesOf e = B) (hB1 : 1 ≤ B) (hC : P.cellsOf e = 1)
    (hp : ∀ m cs', Op P W m e cs' → ∃ x, cs' = [g x] ∧ p x) (h : Opens P W t (.slice A n c)) :
    ∃ l : List α, l.length = n ∧ (∀ x ∈ l, p x) ∧ Row W 1 A n (l.map g) ∧ n * B ≤ 140737488351232 := by
  obtain ⟨hn, hel⟩ := Opens.slice hu hB h
  have hn' : n ≤ 140737488351232 := Nat.le_trans (by exact Nat.le_mul_of_pos_right n hB1) hn
  rcases Nat.eq_zero_or_pos n with rfl | h0
  · exact ⟨[], rfl, fun x hx => by simp at hx, ⟨rfl, by decide, fun h => absurd h (by simp)⟩, hn⟩
  · obtain ⟨a, rfl, hcs⟩ := hel h0
    have key : ∀ i, i < n → ∃ x : α, W.cell? (a.add i) = some (g x) ∧ p x := by
      intro i hi
      obtain ⟨m, cs', h1, h2⟩ := hcs i hi
      rw [hC] at h1
      obtain ⟨x, rfl, hx⟩ := hp m cs' h2
      obtain ⟨_, hcl, hat⟩ := World.cells?_some h1
      have := hat 0 (by omega)
      exact ⟨x, by simpa [Nat.mul_one, Addr.add] using this, hx⟩
    obtain ⟨l, hl, hq⟩ := exists_list key
    subst hl
    refine ⟨l, rfl, fun x hx => ?_, ⟨by simp, hn', fun _ => ?_⟩, hn⟩
    · obtain ⟨i, hi, rfl⟩ := List.mem_iff_getElem.mp hx
      exact (hq i hi).2
    · obtain ⟨c0, -⟩ := hq 0 h0
      have hs : a.spot = none := by
        cases hs : a.spot with
        | none => rfl
        | some s => simp [World.cell?, Addr.add, hs] at c0; split at c0 <;> simp at c0
      obtain ⟨b, off, sp⟩ := a
      simp only at hs
      subst hs
      refine ⟨b, off, rfl, World.block_lt_of_cell? W _ c0, fun j u hj => ?_⟩
      have hjl : j < l.length := by
        rcases Nat.lt_or_ge j l.length with h | h
        · exact h
        · rw [List.getElem?_eq_none (by simpa using h)] at hj; cases hj
      rw [List.getElem?_map, List.getElem?_eq_getElem hjl] at hj
      obtain rfl := Option.some.inj hj
      obtain ⟨c1, -⟩ := hq j hjl
      rw [← c1]
      congr 1
      unfold Addr.add
      split <;> simp_all
/-- A slice whose elements have 'm' cells each, read as a row: 'p' tells what an element is, 'g' its cells. -/
theorem Opens.rowm {P : Program} {W : World} {t e : TypeId} {A : Option Addr} {n c : Nat} {B M : Nat} {α : Type} (g : α → List Value) (p : α → Prop) (hg : ∀ x, (g x).length = M) (hM : 1 ≤ M) (hu : P.underlying t = some (.slice e)) (hB : P.bytesOf e = B) (hB1 : 1 ≤ B) (hC : P.cellsOf e = M)
    (hp : ∀ m cs', Op P W m e cs' → ∃ x, cs' = g x ∧ p x) (h : Opens P W t (.slice A n c)) :
    ∃ l : List α, l.length = n ∧ (∀ x ∈ l, p x) ∧ Row W M A n (l.flatMap g) ∧ n * B ≤ 140737488351232 := by
  obtain ⟨hn, hel⟩ := Opens.slice hu hB h
  have hn' : n ≤ 140737488351232 := Nat.le_trans (by exact Nat.le_mul_of_pos_right n hB1) hn
  rcases Nat.eq_zero_or_pos n with rfl | h0
  · exact ⟨[], rfl, fun x hx => by simp at hx, ⟨by simp, by decide, fun h => absurd h (by simp)⟩, hn⟩
  · obtain ⟨a, rfl, hcs⟩ := hel h0
    have key : ∀ i, i < n → ∃ x : α, (∀ j, j < M → W.cell? (a.add (i * M + j)) = (g x)[j]?) ∧ p x := by
      intro i hi
      obtain ⟨m, cs', h1, h2⟩ := hcs i hi
      rw [hC] at h1
      obtain ⟨x, rfl, hx⟩ := hp m cs' h2
      obtain ⟨_, hcl, hat⟩ := World.cells?_some h1
      refine ⟨x, fun j hj => ?_, hx⟩
      rw [← hat j hj, Deep.add_add]
    obtain ⟨l, hl, hq⟩ := exists_list key
    subst hl
    have hcell : ∀ j, j < l.length * M → W.cell? (a.add j) = (l.flatMap g)[j]? := by
      intro j hj
      have hM0 : 0 < M := hM
      have hi : j / M < l.length := Nat.div_lt_of_lt_mul (by rw [Nat.mul_comm]; exact hj)
      have hr : j % M < M := Nat.mod_lt _ hM0
      have e : j = j / M * M + j % M := by rw [Nat.mul_comm]; exact (Nat.div_add_mod j M).symm
      have h1 := (hq (j / M) hi).1 (j % M) hr
      rw [← flat_get g M hg l (j / M) (j % M) hi hr, ← e] at h1
      exact h1
    refine ⟨l, rfl, fun x hx => ?_, ⟨flat_len g M hg l, hn', fun _ => ?_⟩, hn⟩
    · obtain ⟨i, hi, rfl⟩ := List.mem_iff_getElem.mp hx
      exact (hq i hi).2
    · have hlt0 : 0 < (l.flatMap g).length := by rw [flat_len g M hg l]; exact Nat.mul_pos h0 hM
      have c0 := hcell 0 (Nat.mul_pos h0 hM)
      rw [List.getElem?_eq_getElem hlt0] at c0
      have hs : a.spot = none := by
        cases hs : a.spot with
        | none => rfl
        | some s => simp [World.cell?, Addr.add, hs] at c0; split at c0 <;> simp at c0
      obtain ⟨b, off, sp⟩ := a
      simp only at hs
      subst hs
      refine ⟨b, off, rfl, World.block_lt_of_cell? W _ c0, fun j u hj => ?_⟩
      have hjl : j < l.length * M := by
        rcases Nat.lt_or_ge j (l.length * M) with h | h
        · exact h
        · rw [List.getElem?_eq_none (by rw [flat_len g M hg l]; exact h)] at hj; cases hj
      rw [← hj, ← hcell j hjl]
      congr 1
      unfold Addr.add
      split <;> simp_all
end Go.Proofs.Ytjdapfimjpbnmaa
end
section
set_option maxRecDepth 100000
set_option linter.unusedVariables false
set_option linter.unusedSimpArgs false
namespace Go.Proofs.Ytjdapfimjpbnmaa
open Go.RowKit Go.ChangeShapes Go.WideShapes
open Go.Proofs.YtjdapfimjpbnmaaW.PrintWords (Kd)
/-! Arguments as the printed walks ask for them. -/
theorem Op.string {P : Program} {W : World} {n : Nat} {t : TypeId} {cs : List Value} (hu : P.underlying t = some .string) (h : Op P W n t cs) : ∃ s : ByteArray, cs = [.string s] ∧ s.size ≤ 140737488351232 := by
  cases n with
  | zero => exact h.elim
  | succ n => unfold Op at h; rw [hu] at h; exact h
theorem opens_le {P : Program} {W : World} {t e : TypeId} {A : Option Addr} {n c : Nat} (hu : P.underlying t = some (.slice e)) (h : Opens P W t (.slice A n c)) : n ≤ c := by
  obtain ⟨m, h⟩ := h
  cases m with
  | zero => exact h.elim
  | succ m =>
    unfold Op at h
    rw [hu] at h
    rcases h with h | ⟨a, len, cap, h, hl, -⟩
    · simp [Value.cells] at h
      omega
    · simp [Value.cells] at h
      omega
theorem C_of_row {α : Type} {d : Kd α} {W : World} {A : Option Addr} {L : List α} (g : α → List Value) (M : Nat) (hM : ∀ x, (g x).length = M) (hsz : d.sz = M) (hK : ∀ x, d.K W x (g x)) (h : Row W M A L.length (L.flatMap g)) : d.C W A L.length L := by
  obtain ⟨-, h2, h3⟩ := h
  refine ⟨rfl, by omega, fun hn => ?_⟩
  obtain ⟨b, off, e, -, hc⟩ := h3 hn
  refine ⟨_, e, fun j p hj => ⟨g p, by rw [hM, hsz], hK p, fun i u hu => ?_⟩⟩
  have hjl : j < L.length := (List.getElem?_eq_some_iff.1 hj).1
  have hil : i < M := by
    have := (List.getElem?_eq_some_iff.1 hu).1
    rw [hM] at this
    exact this
  have hp : L[j] = p := by rw [List.getElem?_eq_getElem hjl] at hj; exact Option.some.inj hj
  have hf := Ytjdapfimjpbnmaa.flat_get g M hM L j i hjl hil
  rw [hp, hu] at hf
  have := hc _ _ hf
  rw [hsz]
  have e2 : (⟨b, off, none⟩ : Addr).add (j * M + i) = ⟨b, off + (j * M + i), none⟩ := by
    unfold Addr.add
    split
    · rename_i h0; rw [h0]; rfl
    · rfl
  rw [e2]
  exact this
theorem C_of_bytes {W : World} {A : Option Addr} {L : List Int} (h : Row W 1 A L.length (L.map (Value.int .u8))) : Kd.C (Kd.int .u8) W A L.length L := by
  refine C_of_row (fun x => [Value.int .u8 x]) 1 (fun _ => rfl) rfl (fun x => rfl) ?_
  rw [show L.flatMap (fun x => [Value.int .u8 x]) = L.map (Value.int .u8) from by clear h; induction L <;> simp_all]
  exact h
end Go.Proofs.Ytjdapfimjpbnmaa
end
section
set_option maxRecDepth 100000
set_option linter.unusedVariables false
set_option linter.unusedSimpArgs false
namespace Go.Proofs.Ytjdapfimjpbnmaa
open Go.RowKit Go.ChangeShapes Go.WideShapes

theorem Op.prefix_ {W : World} {n : Nat} {cs : List Value} (h : Op Try.prog W n 28 cs) : ∃ a l, cs = [.int .u32 a, .int .i64 l] ∧ (0 ≤ a ∧ a ≤ 4294967295) ∧ -9223372036854775808 ≤ l ∧ l ≤ 9223372036854775807 := by
  obtain ⟨hl, m, hf⟩ := Op.struct Try.underlying28 h
  rw [show Try.prog.cellsOf 28 = 2 by kernel_rfl] at hl
  match cs, hl with
  | [a, b], _ =>
    have h0 : Op Try.prog W m 26 (([a, b].drop 0).take (Try.prog.cellsOf 26)) := hf 0 _ rfl
    have h1 : Op Try.prog W m 3 (([a, b].drop 1).take (Try.prog.cellsOf 3)) := hf 1 _ rfl
    rw [show Try.prog.cellsOf 26 = 1 by kernel_rfl] at h0
    rw [show Try.prog.cellsOf 3 = 1 by kernel_rfl] at h1
    obtain ⟨x, hx, wx⟩ := Op.int Try.underlying26 h0
    obtain ⟨y, hy, wy⟩ := Op.int Try.underlying3 h1
    simp at hx hy
    subst hx; subst hy
    exact ⟨x, y, rfl, bounds_u32 wx, bounds_i64 wy⟩
end Go.Proofs.Ytjdapfimjpbnmaa
end
section
set_option maxRecDepth 100000
set_option linter.unusedVariables false
set_option linter.unusedSimpArgs false
namespace Go.Proofs.Ytjdapfimjpbnmaa
open Go.RowKit Go.ChangeShapes Go.WideShapes

theorem Opens.int {W : World} {b0 : Nat} {v : Value} (hv : Value.okWide Try.prog W .any b0 3 v) (h : Opens Try.prog W 3 v) : ∃ x, v = .int .i64 x ∧ -9223372036854775808 ≤ x ∧ x ≤ 9223372036854775807 := by
  obtain ⟨x, rfl⟩ := okWide_int Try.underlying3 hv
  obtain ⟨n, h⟩ := h
  obtain ⟨y, hy, wy⟩ := Op.int Try.underlying3 h
  simp [Value.cells] at hy
  subst hy
  exact ⟨x, rfl, bounds_i64 wy⟩
theorem Opens.u32 {W : World} {b0 : Nat} {v : Value} (hv : Value.okWide Try.prog W .any b0 26 v) (h : Opens Try.prog W 26 v) : ∃ x, v = .int .u32 x ∧ 0 ≤ x ∧ x ≤ 4294967295 := by
  obtain ⟨x, rfl⟩ := okWide_int Try.underlying26 hv
  obtain ⟨n, h⟩ := h
  obtain ⟨y, hy, wy⟩ := Op.int Try.underlying26 h
  simp [Value.cells] at hy
  subst hy
  exact ⟨x, rfl, bounds_u32 wy⟩
end Go.Proofs.Ytjdapfimjpbnmaa
end
