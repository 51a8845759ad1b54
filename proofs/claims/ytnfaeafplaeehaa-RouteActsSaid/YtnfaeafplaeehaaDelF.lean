import Derived.Test.YtnfaeafplaeehaaTable
import Derived.Test.YtnfaeafplaeehaaMapDel
import Derived.Test.YtnfaeafplaeehaaSeq
set_option linter.unusedVariables false
set_option linter.unusedSimpArgs false
namespace Go.Proofs.Ytnfaeafplaeehaa
open Go.RowKit Go.ChangeMaps
/-! maps.DeleteFunc over the table: what the caller's function names is gone. -/
theorem rkey_inj {a b : RKey} (h : a.val = b.val) : a = b := by
  obtain ⟨a, l, i⟩ := a
  obtain ⟨b, m, j⟩ := b
  simpa [RKey.val] using h
theorem rt_inj {a b : Rt} (h : a.val = b.val) : a = b := by
  obtain ⟨a1, a2, a3, a4, a5⟩ := a
  obtain ⟨b1, b2, b3, b4, b5⟩ := b
  simpa [Rt.val] using h
theorem entry_of {α β : Type} {ek : α → Value} {ev : β → Value} {es : List MapEntry} {m : List (α × β)} (h : es.map (fun e => (e.key, e.val)) = m.map (fun x => (ek x.1, ev x.2))) {e : MapEntry} (he : e ∈ es) : ∃ x ∈ m, e.key = ek x.1 ∧ e.val = ev x.2 := by
  have : (e.key, e.val) ∈ m.map (fun x => (ek x.1, ev x.2)) := h ▸ List.mem_map_of_mem (f := fun e : MapEntry => (e.key, e.val)) he
  obtain ⟨x, hx, h2⟩ := List.mem_map.1 this
  simp only [Prod.mk.injEq] at h2
  exact ⟨x, hx, h2.1.symm, h2.2.symm⟩
theorem entry_to {α β : Type} {ek : α → Value} {ev : β → Value} {es : List MapEntry} {m : List (α × β)} (h : es.map (fun e => (e.key, e.val)) = m.map (fun x => (ek x.1, ev x.2))) {x : α × β} (hx : x ∈ m) : ∃ e ∈ es, e.key = ek x.1 ∧ e.val = ev x.2 := by
  have : (ek x.1, ev x.2) ∈ es.map (fun e => (e.key, e.val)) := h ▸ List.mem_map_of_mem (f := fun x : α × β => (ek x.1, ev x.2)) hx
  obtain ⟨e, he, h2⟩ := List.mem_map.1 this
  simp only [Prod.mk.injEq] at h2
  exact ⟨e, he, h2.1, h2.2⟩
/-- How the map lies while the walk over it goes on, entries being deleted. -/
structure DelAt (del : RKey × Rt → Bool) (m : List (RKey × Rt)) (b r since clock : Nat) (W : World) (seen : Array Nat) (es : Array MapEntry) (m' : List (RKey × Rt)) : Prop where
  it : ∃ c0, since ≤ c0 ∧ W.heap[r]? = some (.mapIter (some b) since seen c0)
  mp : W.heap[b]? = some (.map es clock)
  rd : es.toList.map (fun e => (e.key, e.val)) = m'.map (fun x => (RKey.val x.1, Rt.val x.2))
  born : ∀ e ∈ es.toList, e.born < since
  nd : (es.toList.map (·.born)).Nodup
  kn : (m'.map (·.1)).Nodup
  done : ∀ e ∈ es.toList, e.born ∈ seen → ∀ x : RKey × Rt, e.key = x.1.val → e.val = x.2.val → del x = false
  same : m'.filter (fun x => !del x) = m.filter (fun x => !del x)
theorem DelAt.fin {del : RKey × Rt → Bool} {m m' : List (RKey × Rt)} {b r since clock : Nat} {W : World} {seen : Array Nat} {es : Array MapEntry} (h : DelAt del m b r since clock W seen es m') (hz : (leftOf es seen).size = 0) : m' = m.filter fun x => !del x := by
  rw [← h.same]
  refine (List.filter_eq_self.2 fun x hx => ?_).symm
  obtain ⟨e, he, e1, e2⟩ := entry_to h.rd hx
  have hs : e.born ∈ seen := by
    have h0 : leftOf es seen = #[] := Array.eq_empty_of_size_eq_zero hz
    unfold leftOf at h0
    rw [Array.filter_eq_empty_iff] at h0
    simpa [Array.contains_iff_mem] using h0 e (by simpa using he)
  simp [h.done e he hs x e1 e2]
theorem born_eq : ∀ {l : List MapEntry}, (l.map (·.born)).Nodup → ∀ {x y : MapEntry}, x ∈ l → y ∈ l → x.born = y.born → x = y
  | [], _, x, y, hx, _, _ => by simp at hx
  | a :: l, hn, x, y, hx, hy, h => by
    simp only [List.map_cons, List.nodup_cons] at hn
    rcases List.mem_cons.1 hx with rfl | hx1
    · rcases List.mem_cons.1 hy with rfl | hy1
      · rfl
      · exact absurd (h ▸ List.mem_map_of_mem (f := MapEntry.born) hy1) hn.1
    · rcases List.mem_cons.1 hy with rfl | hy1
      · exact absurd (h ▸ List.mem_map_of_mem (f := MapEntry.born) hx1) hn.1
      · exact born_eq hn.2 hx1 hy1 h
theorem keys_eq {α β : Type} : ∀ {m : List (α × β)}, (m.map (·.1)).Nodup → ∀ {x y : α × β}, x ∈ m → y ∈ m → x.1 = y.1 → x = y
  | [], _, x, y, hx, _, _ => by simp at hx
  | a :: l, hn, x, y, hx, hy, h => by
    simp only [List.map_cons, List.nodup_cons] at hn
    rcases List.mem_cons.1 hx with rfl | hx1
    · rcases List.mem_cons.1 hy with rfl | hy1
      · rfl
      · exact absurd (h ▸ List.mem_map_of_mem (f := Prod.fst) hy1) hn.1
    · rcases List.mem_cons.1 hy with rfl | hy1
      · exact absurd (h ▸ List.mem_map_of_mem (f := Prod.fst) hx1) hn.1
      · exact keys_eq hn.2 hx1 hy1 h
/-- One entry more was seen, and stays. -/
theorem DelAt.keep {del : RKey × Rt → Bool} {m m' : List (RKey × Rt)} {b r since clock : Nat} {W W' : World} {seen : Array Nat} {es : Array MapEntry} (h : DelAt del m b r since clock W seen es m') (e : MapEntry) (he : e ∈ es.toList) (k : RKey) (v : Rt) (ek : e.key = k.val) (ev : e.val = v.val) (hd : del (k, v) = false)
    (hr : W'.heap[r]? = some (.mapIter (some b) since (seen.push e.born) clock)) (hsc : since ≤ clock) (hb : W'.heap[b]? = some (.map es clock)) : DelAt del m b r since clock W' (seen.push e.born) es m' :=
  ⟨⟨clock, hsc, hr⟩, hb, h.rd, h.born, h.nd, h.kn, fun e' he' hs x e1 e2 => by
    rcases Array.mem_push.1 hs with hs | hs
    · exact h.done e' he' hs x e1 e2
    · obtain rfl := born_eq h.nd he' he hs
      rw [ek] at e1
      rw [ev] at e2
      obtain ⟨x1, x2⟩ := x
      rw [show x1 = k from (rkey_inj e1).symm, show x2 = v from (rt_inj e2).symm]
      exact hd, h.same⟩
/-- One entry more was seen, and goes. -/
theorem DelAt.gone {del : RKey × Rt → Bool} {m m' : List (RKey × Rt)} {b r since clock : Nat} {W W' : World} {seen : Array Nat} {es es' : Array MapEntry} (h : DelAt del m b r since clock W seen es m') (e : MapEntry) (he : e ∈ es.toList) (k : RKey) (v : Rt) (hm : (k, v) ∈ m') (ek : e.key = k.val) (hd : del (k, v) = true)
    (hr : W'.heap[r]? = some (.mapIter (some b) since (seen.push e.born) clock)) (hsc : since ≤ clock) (hb : W'.heap[b]? = some (.map es' clock)) (hrd : es'.toList.map (fun e => (e.key, e.val)) = (delM m' k).map (fun x => (RKey.val x.1, Rt.val x.2))) (hs : es'.toList.Sublist es.toList) : DelAt del m b r since clock W' (seen.push e.born) es' (delM m' k) :=
  ⟨⟨clock, hsc, hr⟩, hb, hrd, fun e' he' => h.born e' (hs.subset he'), h.nd.sublist (hs.map _), nodup_delM m' k h.kn, fun e' he' hse x e1 e2 => by
    rcases Array.mem_push.1 hse with hse | hse
    · exact h.done e' (hs.subset he') hse x e1 e2
    · obtain rfl := born_eq h.nd (hs.subset he') he hse
      obtain ⟨y, hy, e3, -⟩ := entry_of hrd he'
      rw [ek] at e3
      rw [delM_filter k m' h.kn, List.mem_filter] at hy
      exact absurd (rkey_inj e3).symm (by simpa using hy.2), by
    rw [← h.same, delM_filter k m' h.kn, List.filter_filter]
    refine List.filter_congr fun x hx => ?_
    by_cases hk : x.1 = k
    · obtain rfl := keys_eq h.kn hx hm hk
      simp [hd]
    · simp [hk]⟩
theorem left_le {es es' : Array MapEntry} (seen : Array Nat) (h : es'.toList.Sublist es.toList) : (leftOf es' seen).toList.length ≤ (leftOf es seen).toList.length := by
  unfold leftOf
  rw [Array.toList_filter, Array.toList_filter]
  exact (h.filter _).length_le
set_option maxRecDepth 100000 in
set_option maxHeartbeats 2000000 in
theorem deleteFunc (g : Nat) (lb : Array Value) (eg : ∀ args w, (callFunc g args).run Try.prog w = .ok (.enter g args) w) (del : RKey × Rt → Bool) (b : Nat) (m : List (RKey × Rt)) (w0 : World) (hm : MapAt w0 b RKey.val Rt.val m) (hnd : (m.map (·.1)).Nodup)
    (bx : Nat) (v : Value) (hc : w0.cell? ⟨bx, 0, none⟩ = some v) (hbx : bx ≠ b) (hg : ∀ k r W, W.cell? ⟨bx, 0, none⟩ = some v → Calls Try.prog g (#[RKey.val k, Rt.val r] ++ lb) W fun e W' => e = .returned (.bool (del (k, r))) ∧ Below W.heap.size W W') :
    Calls Try.prog 76 #[.map (some b), .func (.func g) #[] lb] w0 fun e w' => e = .returned (.tuple #[]) ∧ MapAt w' b RKey.val Rt.val (m.filter fun x => !del x) ∧ Kept [b] w0 w' := by
  have hbl := hm.lt
  obtain ⟨es, clock, hb, hes, hborn, hbn⟩ := hm
  have hrg := run_range_map (P := Try.prog) w0 136 140 68 b es clock Try.underlying136 hb
  have hbxl := World.block_lt_of_cell? _ _ hc
  have hD0 : DelAt del m b w0.heap.size clock clock (w0.alloc (.mapIter (some b) clock #[] clock)) #[] es m := ⟨⟨clock, Nat.le_refl _, heap_new _ _⟩, (Below.heap_alloc _ _ b hbl).trans hb, hes, hborn, hbn, hnd, fun e _ he => absurd he (by simp), rfl⟩
  have hk0 : Kept [b] w0 (w0.alloc (.mapIter (some b) clock #[] clock)) := kept_alloc (Kept.refl _ _) _
  clear hb hes hborn hbn
  go_enter Try.func76, Try.ntmps76
  go_wp2
  go_loopw [4, 5] (fun _ _ wr => ∃ (seen : Array Nat) (es : Array MapEntry) (m' : List (RKey × Rt)), DelAt del m b w0.heap.size clock clock wr seen es m' ∧ Kept [b] w0 wr) (fun _ _ wr => iterLeft wr b w0.heap.size)
  case atStart => exact ⟨#[], es, m, hD0, hk0⟩
  case round =>
    clear hD0 hk0 hrg
    obtain ⟨seen, es, m', hD, hk⟩ := hrel
    obtain ⟨c0, hsc, hr⟩ := hD.it
    have hbm := hD.mp
    have hlr := lt_of_heap hr
    rcases run_next_at (P := Try.prog) wr 0 w0.heap.size b clock c0 seen es clock hr hbm hD.born hsc with ⟨hz, hnx⟩ | ⟨e, he, w1, hw1, hnx⟩
    · go_wp2
      go_end0
      exact ⟨rfl, by rw [← hD.fin hz]; exact ⟨es, clock, hbm, hD.rd, hD.born, hD.nd⟩, hk⟩
    · have hee := left_mem es seen e he
      obtain ⟨⟨k, r⟩, hx, ek, er⟩ := entry_of hD.rd hee
      have hme := Lib.hid (iterLeft_eq hbm hr)
      have hlt2 := Lib.hid (left_step es seen e he hD.nd).length_eq
      obtain ⟨w2, hw2⟩ : ∃ w2, setBlock w1 w0.heap.size (.mapIter (some b) clock (seen.push e.born) clock) = w2 := ⟨_, rfl⟩
      rw [hw2] at hnx
      have hh1 : w1.heap = wr.heap := by rcases hw1 with rfl | rfl <;> rfl
      have hr2 : w2.heap[w0.heap.size]? = some (.mapIter (some b) clock (seen.push e.born) clock) := by rw [← hw2]; exact heap_setBlock_same (by rw [hh1]; exact hlr)
      have hb2 : w2.heap[b]? = some (.map es clock) := by rw [← hw2, heap_setBlock_other (Nat.ne_of_lt hbl), hh1]; exact hbm
      have hk2 : Kept [b] w0 w2 := by
        rw [← hw2]
        rcases hw1 with rfl | rfl
        · exact ⟨hk.os, hk.tape, hk.output, by simpa [setBlock] using hk.size, fun i hi hs => (heap_setBlock_other (Nat.ne_of_lt hi)).trans (hk.block i hi hs)⟩
        · exact ⟨hk.os, hk.tape, hk.output, by simpa [setBlock] using hk.size, fun i hi hs => (heap_setBlock_other (Nat.ne_of_lt hi)).trans (hk.block i hi hs)⟩
      have hen := run_entry_at (P := Try.prog) w2 w0.heap.size b clock seen es clock e hr2 hb2 hee hD.nd
      rw [ek, er] at hen hnx
      have HX := Lib.hid hx
      have HEK := Lib.hid ek
      have HER := Lib.hid er
      have HEE := Lib.hid hee
      have HD := Lib.hid hD
      have HSC := Lib.hid (show clock ≤ clock from Nat.le_refl _)
      clear hw2 hh1 hw1 hx ek er hee hD hsc he hr hbm hk
      obtain ⟨xa, xl, xn⟩ := k
      obtain ⟨rn, ri, rs, rm, rx⟩ := r
      simp only [RKey.val, Rt.val] at hen hnx
      have hr3 : ((w2.alloc (.cells #[.int .u32 xa, .int .i64 xl, .int .i64 xn] 140)).alloc (.cells #[.int .i64 rn, .int .u32 ri, .int .u32 rs, .int .u16 rm, .int .i64 rx] 68)).heap[w0.heap.size]? = some (.mapIter (some b) clock (seen.push e.born) clock) := (Below.heap_alloc _ _ _ (by have := lt_of_heap hr2; simp; omega)).trans ((Below.heap_alloc w2 _ _ (lt_of_heap hr2)).trans hr2)
      have hb3 : ((w2.alloc (.cells #[.int .u32 xa, .int .i64 xl, .int .i64 xn] 140)).alloc (.cells #[.int .i64 rn, .int .u32 ri, .int .u32 rs, .int .u16 rm, .int .i64 rx] 68)).heap[b]? = some (.map es clock) := (Below.heap_alloc _ _ _ (by have := lt_of_heap hb2; simp; omega)).trans ((Below.heap_alloc w2 _ _ (lt_of_heap hb2)).trans hb2)
      have hk3 := kept_alloc (kept_alloc hk2 (.cells #[.int .u32 xa, .int .i64 xl, .int .i64 xn] 140)) (.cells #[.int .i64 rn, .int .u32 ri, .int .u32 rs, .int .u16 rm, .int .i64 rx] 68)
      have hG := hg ⟨xa, xl, xn⟩ ⟨rn, ri, rs, rm, rx⟩ ((w2.alloc (.cells #[.int .u32 xa, .int .i64 xl, .int .i64 xn] 140)).alloc (.cells #[.int .i64 rn, .int .u32 ri, .int .u32 rs, .int .u16 rm, .int .i64 rx] 68)) ((World.cell?_of_block (w := w0) (hk3.block bx hbxl (by simpa using hbx))).trans hc)
      have kx := (Blk.new w2 140 #[.int .u32 xa, .int .i64 xl, .int .i64 xn]).alloc (.cells #[.int .i64 rn, .int .u32 ri, .int .u32 rs, .int .u16 rm, .int .i64 rx] 68)
      clear hg
      go_wp2_with fail
      refine hG.mono ?_
      rintro e4 W4 ⟨rfl, hb4⟩
      replace hr3 := (hb4.block _ (lt_of_heap hr3)).trans hr3
      replace hb3 := (hb4.block _ (lt_of_heap hb3)).trans hb3
      replace hk3 := hk3.trans (Kept.of_below hb4)
      replace kx := kx.below' hb4
      cases hdel : del (⟨xa, xl, xn⟩, ⟨rn, ri, rs, rm, rx⟩) with
      | false =>
        go_wp2
        go_roundw
        case rel => exact ⟨seen.push e.born, es, m', HD.out.keep e HEE.out _ _ HEK.out HER.out hdel hr3 HSC.out hb3, hk3⟩
        case measure =>
          rw [iterLeft_eq hb3 hr3, hme.out]
          have := hlt2.out
          simp only [List.length_cons] at this
          omega
      | true =>
        obtain ⟨es', hdl, hrd', hsub⟩ := run_delete_raw rkey_keys Try.underlying136 es clock hb3 HD.out.rd ⟨xa, xl, xn⟩ 140 0
        simp only [RKey.val] at hdl
        have HR := Lib.hid hrd'
        have HS := Lib.hid hsub
        clear hrd' hsub
        obtain ⟨W5, hW5⟩ : ∃ W5, ({ W4 with heap := W4.heap.setIfInBounds b (.map es' clock) } : World) = W5 := ⟨_, rfl⟩
        rw [hW5] at hdl
        have hb5 : W5.heap[b]? = some (.map es' clock) := by rw [← hW5]; simp [lt_of_heap hb3]
        have hr5 : W5.heap[w0.heap.size]? = some (.mapIter (some b) clock (seen.push e.born) clock) := by rw [← hW5]; simp [Array.getElem?_setIfInBounds, Nat.ne_of_lt hbl, hr3]
        have hk5 : Kept [b] w0 W5 := hk3.trans (by
          rw [← hW5]
          exact ⟨rfl, rfl, rfl, by simp, fun i hi hs => by
            simp only [List.mem_singleton] at hs
            simp [Array.getElem?_setIfInBounds, Ne.symm hs]⟩)
        clear hW5
        have x0 := kx.cell 0
        have x1 := kx.cell 1
        have x2 := kx.cell 2
        simp only [List.getElem?_toArray, List.getElem?_cons_zero, List.getElem?_cons_succ] at x0 x1 x2
        have x9 := kx.lt
        go_wp2
        go_roundw
        case rel => exact ⟨seen.push e.born, es', delM m' ⟨xa, xl, xn⟩, HD.out.gone e HEE.out _ _ HX.out HEK.out hdel hr5 HSC.out hb5 HR.out HS.out, hk5⟩
        case measure =>
          rw [iterLeft_eq hb5 hr5, hme.out]
          have h1 := hlt2.out
          have h2 := left_le (seen.push e.born) HS.out
          simp only [List.length_cons] at h1
          omega
end Go.Proofs.Ytnfaeafplaeehaa
