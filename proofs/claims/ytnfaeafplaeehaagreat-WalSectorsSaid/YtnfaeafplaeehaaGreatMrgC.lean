/- own texts of this claim, one behind the other: see the remarks within -/
import Derived.Test.YtnfaeafplaeehaaGreatMrgB
import Derived.Test.YtnfaeafplaeehaaGreatMrgA
section
set_option linter.unusedVariables false
set_option linter.unusedSimpArgs false
namespace Go.Proofs.YtnfaeafplaeehaaGreat
open Go.RowKit
/-! A map in memory, read as a list of keys and values. -/
section
variable {P : Program} {α β : Type}

/-- The first place of a key, from a number on. -/
def locate [DecidableEq α] (ev : β → Value) (k : α) : List (α × β) → Nat → Option (Nat × Value)
  | [], _ => none
  | x :: m, i => if k = x.1 then some (i, ev x.2) else locate ev k m (i + 1)
def getM [DecidableEq α] (m : List (α × β)) (k : α) : Option β := (m.find? fun x => decide (k = x.1)).map (·.2)
def updM [DecidableEq α] : List (α × β) → α → β → List (α × β)
  | [], k, v => [(k, v)]
  | x :: m, k, v => if k = x.1 then (k, v) :: m else x :: updM m k v
def delM [DecidableEq α] : List (α × β) → α → List (α × β)
  | [], _ => []
  | x :: m, k => if k = x.1 then m else x :: delM m k

/-- How keys of a type lie: what the model's own search, its test and its 'same bits' say of them. -/
structure Keys [DecidableEq α] (P : Program) (T : TypeId) (ek : α → Value) : Prop where
  find : ∀ (β : Type) (ev : β → Value) (k : α) (es : List MapEntry) (m : List (α × β)) (w : World), es.map (fun e => (e.key, e.val)) = m.map (fun x => (ek x.1, ev x.2)) → (Instr.findKey T (ek k) es).run P w = .ok (locate ev k m 0) w
  check : ∀ (k : α) (em : Bool) (w : World), (Instr.checkKey em 10000 T (ek k)).run P w = .ok () w
  same : ∀ k : α, Instr.sameBits 10000 (ek k) (ek k) = true

theorem run_findAsking [DecidableEq α] {T : TypeId} {ek : α → Value} (heq : ∀ (a b : α) (w : World), (Op.equal T (ek a) (ek b)).run P w = .ok (decide (a = b)) w) (ev : β → Value) (k : α) (w : World) :
    ∀ (es : List MapEntry) (m : List (α × β)) (i : Nat), es.map (fun e => (e.key, e.val)) = m.map (fun x => (ek x.1, ev x.2)) → (Instr.findAsking T (ek k) es i).run P w = .ok (locate ev k m i) w
  | [], [], i, _ => by simp [Instr.findAsking, locate]
  | [], _ :: _, _, h => by simp at h
  | _ :: _, [], _, h => by simp at h
  | e :: es, x :: m, i, h => by
    simp only [List.map_cons, List.cons.injEq, Prod.mk.injEq] at h
    have ih := run_findAsking heq ev k w es m (i + 1) h.2
    have h1 := heq k x.1 w
    rw [← h.1.1] at h1
    by_cases hk : k = x.1
    · rw [decide_eq_true hk] at h1
      simp [Instr.findAsking, locate, h1, h.1.2, hk]
      simp [Instr.findAsking, h1, h.1.2, ← hk]
    · rw [decide_eq_false hk] at h1
      simp [Instr.findAsking, locate, h1, hk, ih]
theorem Keys.of_struct [DecidableEq α] {T : TypeId} {ek : α → Value} {fs : Array Field} (hu : P.underlying T = some (.struct fs)) (heq : ∀ (a b : α) (w : World), (Op.equal T (ek a) (ek b)).run P w = .ok (decide (a = b)) w)
    (hc : ∀ (k : α) (em : Bool) (w : World), (Instr.checkKey em 10000 T (ek k)).run P w = .ok () w) (hs : ∀ k : α, Instr.sameBits 10000 (ek k) (ek k) = true) : Keys P T ek where
  find := by
    intro β ev k es m w h
    have h1 := run_findAsking heq ev k w es m 0 h
    cases es with
    | nil =>
      cases m with
      | nil => simp [Instr.findKey, run_underlying hu, Instr.findNow, locate]
      | cons x m => simp at h
    | cons e es => simp [Instr.findKey, run_underlying hu, Instr.findNow, Instr.sameNow, h1]
  check := hc
  same := hs
theorem findNow_int [DecidableEq α] {kd : IntKind} (g : α → Int) (hg : ∀ a b, g a = g b → a = b) (ev : β → Value) (k : α) : ∀ (es : List MapEntry) (m : List (α × β)) (i : Nat), es.map (fun e => (e.key, e.val)) = m.map (fun x => ((Value.int kd (g x.1)), ev x.2)) →
    Instr.findNow (.int kd) (.int kd (g k)) es i = some (locate ev k m i)
  | [], [], i, _ => rfl
  | [], _ :: _, _, h => by simp at h
  | _ :: _, [], _, h => by simp at h
  | e :: es, x :: m, i, h => by
    simp only [List.map_cons, List.cons.injEq, Prod.mk.injEq] at h
    have ih := findNow_int g hg ev k es m (i + 1) h.2
    obtain ⟨⟨h1, h2⟩, h3⟩ := h
    by_cases hk : k = x.1
    · subst hk
      simp [Instr.findNow, locate, Instr.sameNow, h1, h2]
    · have : (g k == g x.1) = false := by simpa using fun h => hk (hg _ _ h)
      simp [Instr.findNow, locate, Instr.sameNow, h1, this, hk, ih]
theorem same_int (n : Nat) (kd : IntKind) (x : Int) : Instr.sameBits n (.int kd x) (.int kd x) = true := by cases n <;> simp [Instr.sameBits]
theorem check_int {T : TypeId} {kd : IntKind} (hu : P.underlying T = some (.int kd)) (em : Bool) (n : Nat) (x : Int) (w : World) : (Instr.checkKey em (n + 1) T (.int kd x)).run P w = .ok () w := by simp [Instr.checkKey, run_underlying hu]
theorem Keys.of_int [DecidableEq α] {T : TypeId} {kd : IntKind} (g : α → Int) (hg : ∀ a b, g a = g b → a = b) (hu : P.underlying T = some (.int kd)) : Keys P T (fun a => Value.int kd (g a)) where
  find := by
    intro β ev k es m w h
    have h1 := findNow_int (kd := kd) g hg ev k es m 0 h
    simp [Instr.findKey, run_underlying hu, h1]
  check := by
    intro k em w
    exact check_int hu em 9999 _ w
  same := by
    intro k
    exact same_int _ _ _

theorem locate_get [DecidableEq α] (ev : β → Value) (k : α) : ∀ (m : List (α × β)) (i : Nat), (locate ev k m i).map (·.2) = (getM m k).map ev
  | [], i => rfl
  | x :: m, i => by
    by_cases h : k = x.1
    · simp [locate, getM, h]
    · have := locate_get ev k m (i + 1)
      simp only [getM] at this
      simp [locate, getM, h, this]
theorem locate_ge [DecidableEq α] (ev : β → Value) (k : α) : ∀ (m : List (α × β)) (i j : Nat) (v : Value), locate ev k m i = some (j, v) → i ≤ j
  | [], i, j, v, h => by simp [locate] at h
  | x :: m, i, j, v, h => by
    by_cases hk : k = x.1
    · simp [locate, hk] at h; omega
    · simp [locate, hk] at h
      have := locate_ge ev k m (i + 1) j v h
      omega
theorem updM_none [DecidableEq α] (ev : β → Value) (k : α) (v : β) : ∀ (m : List (α × β)) (i : Nat), locate ev k m i = none → updM m k v = m ++ [(k, v)]
  | [], i, _ => rfl
  | x :: m, i, h => by
    by_cases hk : k = x.1
    · simp [locate, hk] at h
    · simp [locate, hk] at h
      simp [updM, hk, updM_none ev k v m (i + 1) h]
theorem updM_some [DecidableEq α] (ek : α → Value) (ev : β → Value) (k : α) (v : β) : ∀ (m : List (α × β)) (es : List MapEntry) (i j : Nat) (z : Value), es.map (fun e => (e.key, e.val)) = m.map (fun x => (ek x.1, ev x.2)) → locate ev k m i = some (j, z) →
    (es.modify (j - i) fun e => { e with key := ek k, val := ev v }).map (fun e => (e.key, e.val)) = (updM m k v).map (fun x => (ek x.1, ev x.2)) ∧ (∃ e, es[j - i]? = some e ∧ e.key = ek k)
  | [], es, i, j, z, h, hl => by simp [locate] at hl
  | x :: m, [], i, j, z, h, hl => by simp at h
  | x :: m, e :: es, i, j, z, h, hl => by
    simp only [List.map_cons, List.cons.injEq, Prod.mk.injEq] at h
    by_cases hk : k = x.1
    · simp [locate, hk] at hl
      obtain ⟨rfl, -⟩ := hl
      refine ⟨?_, e, by simp, by rw [h.1.1, hk]⟩
      simp [updM, hk, h.2]
    · simp [locate, hk] at hl
      have hge := locate_ge ev k m (i + 1) j z hl
      obtain ⟨h1, e', h2, h3⟩ := updM_some ek ev k v m es (i + 1) j z h.2 hl
      have e1 : j - i = (j - (i + 1)) + 1 := by omega
      rw [e1]
      refine ⟨?_, e', by simpa using h2, h3⟩
      simp [updM, hk, h1, h.1]
theorem delM_none [DecidableEq α] (ev : β → Value) (k : α) : ∀ (m : List (α × β)) (i : Nat), locate ev k m i = none → delM m k = m
  | [], i, _ => rfl
  | x :: m, i, h => by
    by_cases hk : k = x.1
    · simp [locate, hk] at h
    · simp [locate, hk] at h
      simp [delM, hk, delM_none ev k m (i + 1) h]
theorem delM_some [DecidableEq α] (ek : α → Value) (ev : β → Value) (k : α) : ∀ (m : List (α × β)) (es : List MapEntry) (i j : Nat) (z : Value), es.map (fun e => (e.key, e.val)) = m.map (fun x => (ek x.1, ev x.2)) → locate ev k m i = some (j, z) →
    (es.eraseIdx (j - i)).map (fun e => (e.key, e.val)) = (delM m k).map (fun x => (ek x.1, ev x.2))
  | [], es, i, j, z, h, hl => by simp [locate] at hl
  | x :: m, [], i, j, z, h, hl => by simp at h
  | x :: m, e :: es, i, j, z, h, hl => by
    simp only [List.map_cons, List.cons.injEq, Prod.mk.injEq] at h
    by_cases hk : k = x.1
    · simp [locate, hk] at hl
      obtain ⟨rfl, -⟩ := hl
      simp [delM, hk, h.2]
    · simp [locate, hk] at hl
      have hge := locate_ge ev k m (i + 1) j z hl
      have h1 := delM_some ek ev k m es (i + 1) j z h.2 hl
      have e1 : j - i = (j - (i + 1)) + 1 := by omega
      rw [e1]
      simp [delM, hk, h1, h.1]

/-- All blocks but those of S are as they were. -/
structure Kept (S : List Nat) (w w' : World) : Prop where
  os : w'.os = w.os
  tape : w'.tape = w.tape
  output : w'.output = w.output
  size : w.heap.size ≤ w'.heap.size
  block : ∀ k, k < w.heap.size → k ∉ S → w'.heap[k]? = w.heap[k]?
theorem Kept.refl (S : List Nat) (w : World) : Kept S w w := ⟨rfl, rfl, rfl, Nat.le_refl _, fun _ _ _ => rfl⟩
theorem Kept.trans {S : List Nat} {a b c : World} (h : Kept S a b) (k : Kept S b c) : Kept S a c :=
  ⟨k.os.trans h.os, k.tape.trans h.tape, k.output.trans h.output, Nat.le_trans h.size k.size, fun i hi hs => (k.block i (Nat.lt_of_lt_of_le hi h.size) hs).trans (h.block i hi hs)⟩
theorem Kept.more {S T : List Nat} {a b : World} (h : Kept S a b) (hs : ∀ k ∈ S, k ∈ T) : Kept T a b := ⟨h.os, h.tape, h.output, h.size, fun i hi hn => h.block i hi fun hm => hn (hs i hm)⟩
theorem Kept.of_below {S : List Nat} {a b : World} (h : Below a.heap.size a b) : Kept S a b := ⟨h.os, h.tape, h.output, h.size, fun i hi _ => h.block i hi⟩
theorem Kept.below {S : List Nat} {B : Nat} {a b c : World} (h : Kept S b c) (hb : Below B a b) (hB : B ≤ b.heap.size) (hs : ∀ k ∈ S, B ≤ k) : Below B a c :=
  hb.trans ⟨h.os, h.tape, h.output, h.size, fun k hk => h.block k (by omega) fun hm => by have := hs k hm; omega⟩
theorem Kept.blk {S : List Nat} {w w' : World} {g : Nat} {t : TypeId} {cs : Array Value} (h : Kept S w w') (hb : Blk w g t cs) (hg : g ∉ S) : Blk w' g t cs := (h.block g hb.lt hg).trans hb
theorem Kept.row {S : List Nat} {w w' : World} {size n : Nat} {A : Option Addr} {cs : List Value} (h : Kept S w w') (hr : Row w size A n cs) (hs : ∀ b off, A = some ⟨b, off, none⟩ → b ∉ S) : Row w' size A n cs := by
  obtain ⟨h1, h2, h3⟩ := hr
  refine ⟨h1, h2, fun h0 => ?_⟩
  obtain ⟨b, off, e, hlt, hc⟩ := h3 h0
  exact ⟨b, off, e, Nat.lt_of_lt_of_le hlt h.size, fun j u hj => (World.cell?_of_block (w := w) (h.block b hlt (hs b off e))).trans (hc j u hj)⟩

@[go_sem] theorem run_makeMap0 (t : TypeId) (w : World) : (Instr.makeMap t none).run P w = .ok (.map (some w.heap.size)) (w.alloc (.map #[] 0)) := rfl
def MapAt (w : World) (b : Nat) (ek : α → Value) (ev : β → Value) (m : List (α × β)) : Prop :=
  ∃ (es : Array MapEntry) (clock : Nat), w.heap[b]? = some (.map es clock) ∧ es.toList.map (fun e => (e.key, e.val)) = m.map (fun x => (ek x.1, ev x.2)) ∧ (∀ e ∈ es.toList, e.born < clock) ∧ (es.toList.map (·.born)).Nodup
theorem MapAt.lt {w : World} {b : Nat} {ek : α → Value} {ev : β → Value} {m : List (α × β)} (h : MapAt w b ek ev m) : b < w.heap.size := by
  obtain ⟨es, c, h, _⟩ := h
  exact lt_of_heap h
theorem MapAt.same {w w' : World} {b : Nat} {ek : α → Value} {ev : β → Value} {m : List (α × β)} (h : MapAt w b ek ev m) (hb : w'.heap[b]? = w.heap[b]?) : MapAt w' b ek ev m := by
  obtain ⟨es, c, h, r⟩ := h
  exact ⟨es, c, hb.trans h, r⟩
theorem MapAt.below {w w' : World} {b : Nat} {ek : α → Value} {ev : β → Value} {m : List (α × β)} (h : MapAt w b ek ev m) (hb : Below w.heap.size w w') : MapAt w' b ek ev m := h.same (hb.block b h.lt)
theorem MapAt.kept {S : List Nat} {w w' : World} {b : Nat} {ek : α → Value} {ev : β → Value} {m : List (α × β)} (h : MapAt w b ek ev m) (hk : Kept S w w') (hb : b ∉ S) : MapAt w' b ek ev m := h.same (hk.block b h.lt hb)
theorem MapAt.alloc {w : World} {b : Nat} {ek : α → Value} {ev : β → Value} {m : List (α × β)} (h : MapAt w b ek ev m) (o : Obj) : MapAt (w.alloc o) b ek ev m := h.same (Below.heap_alloc w o b h.lt)
theorem MapAt.drew {w : World} {b : Nat} {ek : α → Value} {ev : β → Value} {m : List (α × β)} (h : MapAt w b ek ev m) : MapAt w.drew b ek ev m := h
theorem MapAt.setCell {w : World} {b : Nat} {ek : α → Value} {ev : β → Value} {m : List (α × β)} (h : MapAt w b ek ev m) (a : Addr) (u : Value) : MapAt (w.setCell a u) b ek ev m := by
  obtain ⟨es, c, h, r⟩ := h
  refine ⟨es, c, ?_, r⟩
  simp only [World.setCell, Array.getElem?_modify]
  by_cases e : a.block = b
  · rw [if_pos e, h]; rfl
  · rw [if_neg e]; exact h
theorem MapAt.new (w : World) (ek : α → Value) (ev : β → Value) : MapAt (w.alloc (.map #[] 0)) w.heap.size ek ev ([] : List (α × β)) := ⟨#[], 0, heap_new _ _, rfl, by simp, by simp⟩

section
variable [DecidableEq α] {T K E : TypeId} {ek : α → Value} {ev : β → Value} {m : List (α × β)} {b : Nat} {w : World}
theorem run_lookup_some (hK : Keys P K ek) (hT : P.underlying T = some (.map K E)) (h : MapAt w b ek ev m) (k : α) (v : β) (hg : getM m k = some v) (ok : Bool) :
    (Instr.lookup T (.map (some b)) (ek k) ok).run P w = .ok (if ok then .tuple #[ev v, .bool true] else ev v) w := by
  obtain ⟨es, c, h1, h2, -, -⟩ := h
  have hf := hK.find β ev k es.toList m w h2
  have hl := locate_get ev k m 0
  rw [hg] at hl
  obtain ⟨⟨j, z⟩, hz, hz2⟩ := Option.map_eq_some_iff.1 hl
  rw [hz] at hf
  simp only at hz2
  subst hz2
  simp [Instr.lookup, run_underlying hT, getObj, Sem.run, h1, hK.check, hf]
theorem run_lookup_none (hK : Keys P K ek) (hT : P.underlying T = some (.map K E)) (h : MapAt w b ek ev m) (k : α) (hg : getM m k = none) (ok : Bool) (z : Value) (hz : ∀ w, (zeroValue E).run P w = .ok z w) :
    (Instr.lookup T (.map (some b)) (ek k) ok).run P w = .ok (if ok then .tuple #[z, .bool false] else z) w := by
  obtain ⟨es, c, h1, h2, -, -⟩ := h
  have hf := hK.find β ev k es.toList m w h2
  have hl := locate_get ev k m 0
  rw [hg] at hl
  have hz0 : locate ev k m 0 = none := by simpa using hl
  rw [hz0] at hf
  simp [Instr.lookup, run_underlying hT, getObj, Sem.run, h1, hK.check, hf, hz]
theorem run_mapUpdate (hK : Keys P K ek) (hT : P.underlying T = some (.map K E)) (h : MapAt w b ek ev m) (k : α) (v : β) :
    ∃ w1, (Instr.mapUpdate T (.map (some b)) (ek k) (ev v)).run P w = .ok () w1 ∧ MapAt w1 b ek ev (updM m k v) ∧ Kept [b] w w1 := by
  have hlt := h.lt
  obtain ⟨es, c, h1, h2, h3, h4⟩ := h
  have hf := hK.find β ev k es.toList m w h2
  have kept : ∀ o, Kept [b] w { w with heap := w.heap.setIfInBounds b o } := fun o => ⟨rfl, rfl, rfl, by simp, fun i hi hs => by
    simp only [List.mem_singleton] at hs
    simp [Array.getElem?_setIfInBounds, Ne.symm hs]⟩
  cases hl : locate ev k m 0 with
  | none =>
    rw [hl] at hf
    refine ⟨{ w with heap := w.heap.setIfInBounds b (.map (es.push { key := ek k, val := ev v, born := c }) (c + 1)) }, ?_, ⟨es.push { key := ek k, val := ev v, born := c }, c + 1, by simp [hlt], ?_, ?_, ?_⟩, kept _⟩
    · simp [Instr.mapUpdate, run_underlying hT, getObj, setObj, Sem.run, h1, hK.check, hf]
    · rw [updM_none ev k v m 0 hl, List.map_append, ← h2]
      simp
    · intro e he
      simp at he
      rcases he with he | rfl
      · have := h3 e (by simpa using he); omega
      · simp
    · simp only [Array.toList_push, List.map_append, List.map_cons, List.map_nil]
      rw [List.nodup_append]
      refine ⟨h4, by simp, ?_⟩
      intro x hx y hy
      obtain ⟨e, he, rfl⟩ := List.mem_map.1 hx
      have := h3 e he
      simp at hy
      omega
  | some r =>
    obtain ⟨j, z⟩ := r
    rw [hl] at hf
    obtain ⟨u1, e, u2, u3⟩ := updM_some ek ev k v m es.toList 0 j z h2 hl
    simp only [Nat.sub_zero] at u1 u2
    have hkey : ((es[j]?).map (·.key)).getD (ek k) = ek k := by
      have : es[j]? = some e := by simpa using u2
      simp [this, u3]
    refine ⟨{ w with heap := w.heap.setIfInBounds b (.map (es.modify j fun e => { e with key := ek k, val := ev v }) c) }, ?_, ⟨es.modify j fun e => { e with key := ek k, val := ev v }, c, by simp [hlt], ?_, ?_, ?_⟩, kept _⟩
    · simp [Instr.mapUpdate, run_underlying hT, getObj, setObj, Sem.run, h1, hK.check, hf, hkey, Instr.keyThatStays, hK.same]
    · rw [Array.toList_modify]; exact u1
    · intro e' he'
      rw [Array.toList_modify] at he'
      obtain ⟨i, hi, rfl⟩ := List.mem_iff_getElem.1 he'
      rw [List.getElem_modify]
      split
      · show (es.toList[i]'(by simpa using hi)).born < c
        exact h3 _ (List.getElem_mem _)
      · exact h3 _ (List.getElem_mem _)
    · rw [Array.toList_modify]
      have : (es.toList.modify j fun e => { e with key := ek k, val := ev v }).map (·.born) = es.toList.map (·.born) := by
        refine List.ext_getElem (by simp) fun i h1 h2 => ?_
        simp only [List.getElem_map, List.getElem_modify]
        split <;> rfl
      rw [this]
      exact h4
end
end
end Go.Proofs.YtnfaeafplaeehaaGreat
end
section
set_option linter.unusedVariables false
set_option linter.unusedSimpArgs false
namespace Go.Proofs.YtnfaeafplaeehaaGreat
open Go.RowKit

def putN (l : List Int) (off : Nat) (n : Int) : Nat → List Int
  | 0 => l
  | 1 => l.set off (n / 16777216 % 256)
  | 2 => (l.set off (n / 16777216 % 256)).set (off + 1) (n / 65536 % 256)
  | 3 => ((l.set off (n / 16777216 % 256)).set (off + 1) (n / 65536 % 256)).set (off + 2) (n / 256 % 256)
  | _ => (((l.set off (n / 16777216 % 256)).set (off + 1) (n / 65536 % 256)).set (off + 2) (n / 256 % 256)).set (off + 3) (n % 256)
def put4 (l : List Int) (off : Nat) (n : Int) : List Int := (((l.set off (n / 16777216 % 256)).set (off + 1) (n / 65536 % 256)).set (off + 2) (n / 256 % 256)).set (off + 3) (n % 256)
theorem u8s_set (l : List Int) (i : Nat) (x : Int) : (u8s l).toArray.setIfInBounds i (.int .u8 x) = (u8s (l.set i x)).toArray := by simp [u8s, List.map_set]
/-- A block of bytes. -/
def Bts (w : World) (g : Nat) (t : TypeId) (l : List Int) : Prop := Blk w g t (u8s l).toArray
theorem Bts.cell {w : World} {g : Nat} {t : TypeId} {l : List Int} (h : Bts w g t l) (i : Nat) (hi : i < l.length) : w.cell? ⟨g, i, none⟩ = some (.int .u8 l[i]) := by
  rw [Blk.cell h i]
  simp [u8s, hi]
theorem Bts.set {w : World} {g : Nat} {t : TypeId} {l : List Int} (h : Bts w g t l) (i : Nat) (x : Int) : Bts (w.setCell ⟨g, i, none⟩ (.int .u8 x)) g t (l.set i x) := by
  have := Blk.set h i (.int .u8 x)
  rw [u8s_set] at this
  exact this
theorem Bts.drew {w : World} {g : Nat} {t : TypeId} {l : List Int} (h : Bts w g t l) : Bts w.drew g t l := Blk.drew h
theorem Bts.row {w : World} {g : Nat} {t : TypeId} {l : List Int} (h : Bts w g t l) (hn : l.length ≤ 140737488351232) : Row w 1 (some ⟨g, 0, none⟩) l.length (u8s l) :=
  Row.ofBlock (by simp [u8s]) hn h (fun j u hj => by simpa using hj)
theorem Bts.cut {w : World} {g : Nat} {t : TypeId} {l : List Int} (h : Bts w g t l) (off n : Nat) (hl : off + n ≤ l.length) (hn : l.length ≤ 140737488351232) : Row w 1 (some ⟨g, off, none⟩) n (u8s ((l.drop off).take n)) := by
  refine ⟨by simp [u8s]; omega, by omega, fun _ => ⟨g, off, rfl, Blk.lt h, fun j u hj => ?_⟩⟩
  have hj' : j < n := by
    rcases Nat.lt_or_ge j n with h | h
    · exact h
    · rw [List.getElem?_eq_none (by simp [u8s]; omega)] at hj; cases hj
  rw [Bts.cell h (off + j) (by omega)]
  simp [u8s, List.getElem?_take, hj', List.getElem?_drop] at hj
  obtain ⟨x, hx, rfl⟩ := hj
  rw [List.getElem?_eq_getElem (by omega)] at hx
  simpa using hx

theorem kept_set1 {g : Nat} {w w' : World} (h : Kept [g] w w') (o : Nat) (u : Value) : Kept [g] w (w'.setCell ⟨g, o, none⟩ u) :=
  ⟨h.os, h.tape, h.output, by simpa [World.setCell] using h.size, fun k hk hs => by
    rw [← h.block k hk hs]
    exact Below.heap_setCell w' _ u k fun e => hs (by subst e; simp)⟩
/-- 'put' into a slice over a block of bytes. -/
theorem rec_put (g off n cap : Nat) (t : TypeId) (l : List Int) (x : Int) (w : World) (hn : 4 ≤ n) (hnc : n ≤ cap) (hm : n ≤ 140737488351232) (hx : 0 ≤ x ∧ x ≤ 4294967295) (hB : Bts w g t l) (hl : off + 4 ≤ l.length) :
    Calls Tryz.prog 60 #[.slice (some ⟨g, off, none⟩) n cap, .int .u32 x] w fun e w' => e = .returned (.tuple #[]) ∧ Bts w' g t (put4 l off x) ∧ Kept [g] w w' := by
  obtain ⟨hx0, hx1⟩ := hx
  have EV : x / 16777216 % 256 = x / 16777216 := by omega
  replace EV := Lib.hid EV
  go_enter Tryz.func60, Tryz.ntmps60
  go_wp2
  go_loopw [5] (fun i wr => ∃ k : Nat, k ≤ 4 ∧ i = .int .i64 k ∧ Bts wr g t (putN l off x k) ∧ Kept [g] w wr) (fun i _ => 4 - (intOf i).toNat)
  case atStart => exact ⟨0, by omega, rfl, hB, Kept.refl _ _⟩
  case round =>
    clear hB
    obtain ⟨k, hk, rfl, hB, hk1⟩ := hrel
    match k, hk with
    | 0, _ =>
      simp only [putN] at hB
      have hfz := Blk.frozen hB off
      have hcl := Bts.cell hB off (by (try simp); omega)
      go_wp2
      refine ⟨⟨1, by omega, rfl, ?_, ?_⟩, by simp [intOf]⟩
      · have := hB.set off (x / 16777216)
        simpa only [putN, EV.out] using this
      · exact kept_set1 hk1 _ _
    | 1, _ =>
      simp only [putN] at hB
      have hfz := Blk.frozen hB (off + 1)
      have hcl := Bts.cell hB (off + 1) (by (try simp); omega)
      go_wp2
      refine ⟨⟨2, by omega, rfl, ?_, ?_⟩, by simp [intOf]⟩
      · have := hB.set (off + 1) (x / 65536 % 256)
        simpa only [putN, EV.out] using this
      · exact kept_set1 hk1 _ _
    | 2, _ =>
      simp only [putN] at hB
      have hfz := Blk.frozen hB (off + 2)
      have hcl := Bts.cell hB (off + 2) (by (try simp); omega)
      go_wp2
      refine ⟨⟨3, by omega, rfl, ?_, ?_⟩, by simp [intOf]⟩
      · have := hB.set (off + 2) (x / 256 % 256)
        simpa only [putN, EV.out] using this
      · exact kept_set1 hk1 _ _
    | 3, _ =>
      simp only [putN] at hB
      have hfz := Blk.frozen hB (off + 3)
      have hcl := Bts.cell hB (off + 3) (by (try simp); omega)
      go_wp2
      refine ⟨⟨4, by omega, rfl, ?_, ?_⟩, by simp [intOf]⟩
      · have := hB.set (off + 3) (x % 256)
        simpa only [putN, EV.out] using this
      · exact kept_set1 hk1 _ _
    | 4, _ =>
      replace hB : Bts wr g t (put4 l off x) := hB
      go_wp2
      refine bodyPost_end (results_none rfl _ _ _) rfl ⟨rfl, hB, hk1⟩
end Go.Proofs.YtnfaeafplaeehaaGreat
end
section
set_option linter.unusedVariables false
set_option linter.unusedSimpArgs false
namespace Go.Proofs.YtnfaeafplaeehaaGreat
open Go.RowKit
/-! A key deleted from a map; deleting while a walk over the map goes on. -/
section
variable {P : Program} {α β : Type} [DecidableEq α] {T K E : TypeId} {ek : α → Value} {ev : β → Value} {m : List (α × β)} {b : Nat} {w : World}
/-- What a deletion leaves of the entries. -/
theorem run_delete_raw (hK : Keys P K ek) (hT : P.underlying T = some (.map K E)) (es : Array MapEntry) (c : Nat) (h1 : w.heap[b]? = some (.map es c)) (h2 : es.toList.map (fun e => (e.key, e.val)) = m.map (fun x => (ek x.1, ev x.2))) (k : α) (T2 : TypeId) (ty : TypeId) :
    ∃ es' : Array MapEntry, (Builtin.delete_ #[T, T2] ty #[.map (some b), ek k]).run P w = .ok (.tuple #[]) { w with heap := w.heap.setIfInBounds b (.map es' c) } ∧ es'.toList.map (fun e => (e.key, e.val)) = (delM m k).map (fun x => (ek x.1, ev x.2)) ∧ es'.toList.Sublist es.toList := by
  have hf := hK.find β ev k es.toList m w h2
  cases hl : locate ev k m 0 with
  | none =>
    rw [hl] at hf
    refine ⟨es, ?_, by rw [delM_none ev k m 0 hl]; exact h2, List.Sublist.refl _⟩
    have hw : ({ w with heap := w.heap.setIfInBounds b (.map es c) } : World) = w := by
      have : w.heap.setIfInBounds b (.map es c) = w.heap := by
        refine Array.ext_getElem? fun i => ?_
        rw [Array.getElem?_setIfInBounds]
        split
        · rename_i e; subst e; rw [h1]; split
          · rfl
          · rename_i h; exact absurd (lt_of_heap h1) h
        · rfl
      rw [this]
    rw [hw]
    simp [Builtin.delete_, run_underlying hT, getObj, setObj, Sem.run, h1, hK.check, hf]
    exact hw
  | some r =>
    obtain ⟨j, z⟩ := r
    rw [hl] at hf
    have u1 := delM_some ek ev k m es.toList 0 j z h2 hl
    simp only [Nat.sub_zero] at u1
    refine ⟨es.eraseIdxIfInBounds j, ?_, by simpa using u1, by simpa using List.eraseIdx_sublist _ _⟩
    simp [Builtin.delete_, run_underlying hT, getObj, setObj, Sem.run, h1, hK.check, hf]
theorem run_delete (hK : Keys P K ek) (hT : P.underlying T = some (.map K E)) (h : MapAt w b ek ev m) (k : α) (T2 : TypeId) (ty : TypeId) :
    ∃ w1, (Builtin.delete_ #[T, T2] ty #[.map (some b), ek k]).run P w = .ok (.tuple #[]) w1 ∧ MapAt w1 b ek ev (delM m k) ∧ Kept [b] w w1 := by
  have hlt := h.lt
  obtain ⟨es, c, h1, h2, h3, h4⟩ := h
  obtain ⟨es', hr, e1, e2⟩ := run_delete_raw hK hT es c h1 h2 k T2 ty
  refine ⟨_, hr, ⟨es', c, by simp [hlt], e1, fun e he => h3 e (e2.subset he), h4.sublist (e2.map _)⟩, ⟨rfl, rfl, rfl, by simp, fun i hi hs => ?_⟩⟩
  simp only [List.mem_singleton] at hs
  simp [Array.getElem?_setIfInBounds, Ne.symm hs]
end
theorem delM_filter {α β : Type} [DecidableEq α] (k : α) : ∀ m : List (α × β), (m.map (·.1)).Nodup → delM m k = m.filter fun x => decide (x.1 ≠ k)
  | [], _ => rfl
  | x :: m, hn => by
    simp only [List.map_cons, List.nodup_cons] at hn
    unfold delM
    by_cases h : k = x.1
    · subst h
      rw [if_pos rfl, List.filter_cons_of_neg (by simp)]
      refine (List.filter_eq_self.2 fun y hy => ?_).symm
      simp only [ne_eq, decide_eq_true_eq]
      exact fun e => hn.1 (e ▸ List.mem_map_of_mem hy)
    · rw [if_neg h, List.filter_cons_of_pos (by simpa using fun e => h e.symm), delM_filter k m hn.2]
theorem nodup_filter {α β : Type} (m : List (α × β)) (p : α × β → Bool) (hn : (m.map (·.1)).Nodup) : ((m.filter p).map (·.1)).Nodup := hn.sublist ((List.filter_sublist).map _)
theorem nodup_delM {α β : Type} [DecidableEq α] (m : List (α × β)) (k : α) (hn : (m.map (·.1)).Nodup) : ((delM m k).map (·.1)).Nodup := by rw [delM_filter k m hn]; exact nodup_filter m _ hn
theorem updM_keys {α β : Type} [DecidableEq α] (k : α) (v : β) : ∀ m : List (α × β), ∀ x, x ∈ updM m k v → x = (k, v) ∨ x ∈ m
  | [], x, h => by simp [updM] at h; exact .inl h
  | y :: m, x, h => by
    unfold updM at h
    split at h
    · rcases List.mem_cons.1 h with e | e
      · exact .inl e
      · exact .inr (List.mem_cons_of_mem _ e)
    · rcases List.mem_cons.1 h with e | e
      · exact .inr (by rw [e]; simp)
      · rcases updM_keys k v m x e with e | e
        · exact .inl e
        · exact .inr (List.mem_cons_of_mem _ e)
theorem nodup_updM {α β : Type} [DecidableEq α] (k : α) (v : β) : ∀ m : List (α × β), (m.map (·.1)).Nodup → ((updM m k v).map (·.1)).Nodup
  | [], _ => by simp [updM]
  | y :: m, hn => by
    simp only [List.map_cons, List.nodup_cons] at hn
    unfold updM
    split
    · rename_i h
      subst h
      simp only [List.map_cons, List.nodup_cons]
      exact hn
    · rename_i h
      simp only [List.map_cons, List.nodup_cons]
      refine ⟨fun hm => ?_, nodup_updM k v m hn.2⟩
      obtain ⟨x, hx, e⟩ := List.mem_map.1 hm
      rcases updM_keys k v m x hx with e' | e'
      · subst e'; exact h e
      · exact hn.1 (e ▸ List.mem_map_of_mem e')
theorem updM_len {α β : Type} [DecidableEq α] (k : α) (v : β) : ∀ m : List (α × β), (updM m k v).length ≤ m.length + 1
  | [] => by simp [updM]
  | y :: m => by
    unfold updM
    split
    · simp
    · have := updM_len k v m
      simp only [List.length_cons]
      omega
end Go.Proofs.YtnfaeafplaeehaaGreat
end
