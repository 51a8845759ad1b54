/- own texts of this claim, one behind the other: see the remarks within -/
import Derived.Test.YtnfaeafplaeehaaGreatDiskN
import Derived.Test.YtnfaeafplaeehaaGreatMrgD
import Derived.Laws.Cover3
import Derived.Test.YtnfaeafplaeehaaGreatMrgA
import Derived.Test.YtnfaeafplaeehaaGreatMrgC
section
set_option linter.unusedVariables false
set_option linter.unusedSimpArgs false
namespace Go.Proofs.YtnfaeafplaeehaaGreat
open Go.RowKit
/-! A sector loaded, stored, made: whole. -/
theorem size_sec : (Tryz.prog.info? 90).map (·.size) = some 48 := by kernel_rfl
theorem wpList_load_sec {ops : Array Oper} {rest : List Oper} {op : Oper} {a : Act} {w : World} {Q : Exit → Act → World → Prop} (hgd : op.guard = none) (x : Operand) (ho : op.op = .load 90 x)
    (b o : Nat) (hx : a.eval x = .pointer (some ⟨b, o, none⟩)) (cs : List Value) (hl : cs.length = 48) (hc : w.rangeAt b o cs)
    (h : wpList Tryz.prog ops Q rest (a.put op.dst (.agg cs.toArray)) w) : wpList Tryz.prog ops Q (op :: rest) a w :=
  wpList_load_mid hgd _ x ho b o hx cs _ hc Tryz.underlying90 rfl (by rw [hl]; exact size_sec) h
theorem wpList_store_sec {ops : Array Oper} {rest : List Oper} {op : Oper} {a : Act} {w : World} {Q : Exit → Act → World → Prop} (hgd : op.guard = none) (x y : Operand) (ho : op.op = .store 90 x y)
    (b o : Nat) (l : List Int) (hx : a.eval x = .pointer (some ⟨b, o, none⟩)) (hy : a.eval y = secV l) (hl : l.length = 48)
    (ht : w.there b o 48) (h : wpList Tryz.prog ops Q rest (a.put op.dst undef) (w.setCells b o (u8s l))) : wpList Tryz.prog ops Q (op :: rest) a w := by
  have hs : (u8s l).toArray.size = 48 := by simp [u8s, hl]
  exact wpList_store_mid hgd _ x y ho b o (u8s l).toArray hx hy (by rw [hs]; exact ht) (by rw [hs]; exact size_sec) (all_oneCell_toArray fun v hv => by simp [u8s] at hv; obtain ⟨x, -, rfl⟩ := hv; rfl) h
theorem run_alloc_sec (w : World) : (Instr.alloc 90 true (.tuple #[])).run Tryz.prog w = .ok (.pointer (some ⟨w.heap.size, 0, none⟩)) (w.alloc (.cells (u8s zsec).toArray 90)) := by
  simp only [Instr.alloc, Sem.run_bind, Sem.run_pure, run_zero_sec, newVar, newRow, secV, Value.cells, run_newObj, Result.andThen_ok]
  rfl
theorem wpList_alloc_sec {ops : Array Oper} {rest : List Oper} {op : Oper} {a : Act} {w : World} {Q : Exit → Act → World → Prop} (hgd : op.guard = none) (ho : op.op = .alloc 90)
    (h : wpList Tryz.prog ops Q rest (a.put op.dst (.pointer (some ⟨w.heap.size, 0, none⟩))) (w.alloc (.cells (u8s zsec).toArray 90))) : wpList Tryz.prog ops Q (op :: rest) a w :=
  wpList_plain hgd fun _ hK => by
    unfold Oper.wp execOp
    simp only [ho, Sem.run_bind, Sem.run_pure, run_alloc_sec, Result.andThen_ok]
    exact hK _ _ h
theorem wpList_box_sec {ops : Array Oper} {rest : List Oper} {op : Oper} {a : Act} {w : World} {Q : Exit → Act → World → Prop} (hgd : op.guard = none) (x : Operand) (ho : op.op = .box 90 x) (l : List Int) (hx : a.eval x = secV l)
    (h : wpList Tryz.prog ops Q rest (a.put op.dst (.pointer (some ⟨w.heap.size, 0, none⟩))) (w.alloc (.cells (u8s l).toArray 90))) : wpList Tryz.prog ops Q (op :: rest) a w :=
  wpList_plain hgd fun _ hK => by
    unfold Oper.wp execOp
    simp only [ho, hx, Instr.box, secV, newVar, newRow, Value.cells, Sem.run_bind, Sem.run_pure, Result.andThen_ok, run_newObj]
    exact hK _ _ h
/-- Cells put into a list from a place on. -/
def putL : List Value → Nat → List Value → List Value
  | cs, _, [] => cs
  | cs, o, v :: r => putL (cs.set o v) (o + 1) r
theorem putL_mid : ∀ (vs A X B : List Value), X.length = vs.length → putL (A ++ (X ++ B)) A.length vs = A ++ (vs ++ B)
  | [], A, [], B, _ => rfl
  | v :: r, A, x :: X, B, h => by
    have := putL_mid r (A ++ [v]) X B (by simpa using h)
    simp only [List.append_assoc, List.singleton_append, List.length_append, List.length_singleton] at this
    rw [putL, List.set_append_right _ _ (Nat.le_refl _), Nat.sub_self]
    simpa using this
theorem Blk.setCells {b : Nat} {t : TypeId} : ∀ (vs : List Value) (o : Nat) (w : World) (cs : List Value), Blk w b t cs.toArray → Blk (w.setCells b o vs) b t (putL cs o vs).toArray
  | [], _, _, _, h => h
  | v :: r, o, w, cs, h => by
    have := h.set o v
    rw [List.setIfInBounds_toArray] at this
    exact Blk.setCells r (o + 1) _ _ this
theorem kept_setCells (b : Nat) : ∀ (vs : List Value) (o : Nat) (w w' : World), Kept [b] w w' → Kept [b] w (w'.setCells b o vs)
  | [], _, _, _, h => h
  | v :: r, o, w, w', h => kept_setCells b r (o + 1) w _ (kept_set h _ _ (.inl (by simp)))
theorem flat48 : ∀ (A : List Sec), (∀ x ∈ A, x.length = 48) → (A.flatMap u8s).length = A.length * 48
  | [], _ => rfl
  | x :: A, h => by
    rw [List.flatMap_cons, List.length_append, flat48 A fun y hy => h y (List.mem_cons_of_mem _ hy), List.length_cons, Nat.add_mul]
    simp only [u8s, List.length_map, h x (by simp)]
    omega
theorem putL_sec (sec : List Sec) (i : Nat) (l : Sec) (h : ∀ x ∈ sec, x.length = 48) (hi : i < sec.length) (hl : l.length = 48) : putL (sec.flatMap u8s) (i * 48) (u8s l) = (sec.set i l).flatMap u8s := by
  have hs : sec = sec.take i ++ sec[i] :: sec.drop (i + 1) := by rw [← List.drop_eq_getElem_cons hi, List.take_append_drop]
  have h1 := flat48 (sec.take i) fun x hx => h x (List.mem_of_mem_take hx)
  rw [List.length_take, Nat.min_eq_left (Nat.le_of_lt hi)] at h1
  have h2 := putL_mid (u8s l) ((sec.take i).flatMap u8s) (u8s sec[i]) ((sec.drop (i + 1)).flatMap u8s) (by simp [u8s, hl, h sec[i] (List.getElem_mem hi)])
  rw [h1] at h2
  have e1 : sec.flatMap u8s = (sec.take i).flatMap u8s ++ (u8s sec[i] ++ (sec.drop (i + 1)).flatMap u8s) := by
    conv => lhs; rw [hs]
    simp only [List.flatMap_append, List.flatMap_cons]
  rw [e1, h2, List.set_eq_take_append_cons_drop, if_pos hi]
  simp only [List.flatMap_append, List.flatMap_cons]
theorem sec_range (sec : List Sec) (i : Nat) (h : ∀ x ∈ sec, x.length = 48) (hi : i < sec.length) (j : Nat) (v : Value) (hv : (u8s sec[i])[j]? = some v) : (sec.flatMap u8s)[i * 48 + j]? = some v := by
  have hs : sec = sec.take i ++ sec[i] :: sec.drop (i + 1) := by rw [← List.drop_eq_getElem_cons hi, List.take_append_drop]
  have h1 := flat48 (sec.take i) fun x hx => h x (List.mem_of_mem_take hx)
  rw [List.length_take, Nat.min_eq_left (Nat.le_of_lt hi)] at h1
  have hj : j < (u8s sec[i]).length := (List.getElem?_eq_some_iff.1 hv).1
  have e1 : sec.flatMap u8s = (sec.take i).flatMap u8s ++ (u8s sec[i] ++ (sec.drop (i + 1)).flatMap u8s) := by
    conv => lhs; rw [hs]
    simp only [List.flatMap_append, List.flatMap_cons]
  rw [e1, List.getElem?_append_right (by omega), h1, Nat.add_sub_cancel_left, List.getElem?_append_left hj, hv]
theorem DiskAt.range {W : World} {d g bs : Nat} {sec : List Sec} {lat : List (Int × Sec)} {fl : Int} (h : DiskAt W d g bs sec lat fl) (i : Nat) (hi : i < sec.length) : W.rangeAt bs (i * 48) (u8s sec[i]) := fun j v hv => by
  rw [h.s.cell]
  have := sec_range sec i h.l hi j v hv
  simpa using this
theorem DiskAt.there {W : World} {d g bs : Nat} {sec : List Sec} {lat : List (Int × Sec)} {fl : Int} (h : DiskAt W d g bs sec lat fl) (i : Nat) (hi : i < sec.length) : W.there bs (i * 48) 48 := fun j hj => by
  refine ⟨?_, h.s.frozen _⟩
  have hl : j < (u8s sec[i]).length := by simp [u8s, h.l sec[i] (List.getElem_mem hi), hj]
  rw [h.range i hi j _ (List.getElem?_eq_getElem hl)]
  rfl
theorem DiskAt.setSec {W : World} {d g bs : Nat} {sec : List Sec} {lat : List (Int × Sec)} {fl : Int} (h : DiskAt W d g bs sec lat fl) (i : Nat) (hi : i < sec.length) (l : Sec) (hl : l.length = 48) : DiskAt (W.setCells bs (i * 48) (u8s l)) d g bs (sec.set i l) lat fl := by
  have hk := kept_setCells bs (u8s l) (i * 48) W W (Kept.refl _ _)
  refine ⟨by simpa using hk.blk h.d (by simpa using h.d.nT h.s (by decide)), ?_, h.m.kept hk (by simpa using fun e => blk_mapD h.s h.m e.symm), fun x hx => ?_, by simpa using h.k, h.n, by simpa using h.sz⟩
  · rw [← putL_sec sec i l h.l hi hl]
    exact h.s.setCells _ _ _ _
  · rcases List.mem_or_eq_of_mem_set hx with hx | rfl
    · exact h.l x hx
    · exact hl
theorem _root_.Go.run_eql_slice_nil0 {P : Program} (w : World) (t e : TypeId) (a : Option Addr) (l c : Nat) (h : P.underlying t = some (.slice e)) : (binOp .eql t (.slice a l c) (.slice none 0 0)).run P w = .ok (.bool a.isNone) w := by
  simp [binOp, Sem.run_bind, Go.run_equal_slice_nil w t e a l c h]
set_option maxRecDepth 100000 in
theorem bytes_Clone (A : Option Addr) (c : Nat) (l : List Int) (w : World) (hr : Row w 1 A l.length (u8s l)) (h0 : 0 < l.length) :
    Calls Tryz.prog 40 #[.slice A l.length c] w fun e w' => ∃ v, e = .returned v ∧ Own8 w' w.heap.size v l ∧ Below w.heap.size w w' := by
  obtain ⟨b, off, rfl, -, -⟩ := hr.2.2 h0
  obtain ⟨hrg, hbl⟩ := row_range hr h0
  have H0 := Lib.hid h0
  go_enter Tryz.func40, Tryz.ntmps40
  have hE := Go.run_eql_slice_nil0 w 51 5 (some ⟨b, off, none⟩) l.length c Tryz.underlying51
  obtain ⟨v, w2, hap, hown, hb2, -⟩ := app8 w.heap.size (.slice (some ⟨w.heap.size, 0, none⟩) 0 0) [] l (w.alloc (.cells #[] 5)) (Own8.new w w.heap.size [] (Nat.le_refl _) (by simp)) ⟨b, off, none⟩ l.length c rfl
    (fun j u hj => by rw [Go.Addr.add_mid]; exact World.rangeAt_alloc hrg _ j u hj) (by have := hr.2.1; simp; omega) (by simp)
  go_wp2_with (at_builtin; refine wpList_app rfl _ _ _ _ rfl rfl rfl hap ?_)
  go_ret
  exact ⟨v, rfl, by simpa using hown, ((Below.refl _ w).alloc (Nat.le_refl _) _).trans hb2⟩
set_option maxRecDepth 100000 in
theorem disk_Read_bad (i : Int) (d g bs : Nat) (sec : List Sec) (lat : List (Int × Sec)) (fl : Int) (w : World) (h : DiskAt w d g bs sec lat fl) (hbad : i < 0 ∨ (sec.length : Int) ≤ i) :
    Calls Tryz.prog 16 #[.pointer (some ⟨d, 0, none⟩), .int .i64 i] w fun e w' => e = .returned (.tuple #[.slice none 0 0, .int .i64 1]) ∧ w' = w := by
  have hB := h.d
  have b0 := hB.cell 0
  have b1 := hB.cell 1
  have b2 := hB.cell 2
  simp only [List.getElem?_toArray, List.getElem?_cons_zero, List.getElem?_cons_succ] at b0 b1 b2
  by_cases h0 : i < 0
  · have h0' : decide (i < 0) = true := decide_eq_true h0
    clear h0 hbad
    go_enter Tryz.func16, Tryz.ntmps16
    go_wp2
    go_ret2
    exact ⟨rfl, rfl⟩
  · have h0' : decide (i < 0) = false := decide_eq_false h0
    have h1' : decide ((sec.length : Int) ≤ i) = true := decide_eq_true (by omega)
    clear h0 hbad
    go_enter Tryz.func16, Tryz.ntmps16
    go_wp2
    go_ret2
    exact ⟨rfl, rfl⟩
theorem setCells_new (w : World) (t : TypeId) : ∀ (vs : List Value) (o : Nat) (cs : List Value), (w.alloc (.cells cs.toArray t)).setCells w.heap.size o vs = w.alloc (.cells (putL cs o vs).toArray t)
  | [], _, _ => rfl
  | v :: r, o, cs => by
    rw [World.setCells, World.setCell_alloc_at _ _ _ _ _ rfl, List.setIfInBounds_toArray, setCells_new w t r]
    rfl
theorem there_new (w : World) (t : TypeId) (cs : List Value) : (w.alloc (.cells cs.toArray t)).there w.heap.size 0 cs.length := fun j hj => by
  have h := Blk.new w t cs.toArray
  rw [h.cell, h.frozen]
  simpa using hj
theorem setCells_secs (w : World) (a l : Sec) (ha : a.length = 48) (hl : l.length = 48) : (w.alloc (.cells (u8s a).toArray 90)).setCells w.heap.size 0 (u8s l) = w.alloc (.cells (u8s l).toArray 90) := by
  rw [setCells_new]
  have := putL_mid (u8s l) [] (u8s a) [] (by simp [u8s, ha, hl])
  simp only [List.append_nil, List.nil_append, List.length_nil] at this
  rw [this]
theorem wpList_storeN_sec {ops : Array Oper} {rest : List Oper} {op : Oper} {a : Act} {w : World} {Q : Exit → Act → World → Prop} (hgd : op.guard = none) (x y : Operand) (ho : op.op = .store 90 x y)
    (z l : Sec) (hx : a.eval x = .pointer (some ⟨w.heap.size, 0, none⟩)) (hy : a.eval y = secV l) (hz : z.length = 48) (hl : l.length = 48)
    (h : wpList Tryz.prog ops Q rest (a.put op.dst undef) (w.alloc (.cells (u8s l).toArray 90))) : wpList Tryz.prog ops Q (op :: rest) a (w.alloc (.cells (u8s z).toArray 90)) := by
  refine wpList_store_sec hgd x y ho _ _ l hx hy hl ?_ ?_
  · have := there_new w 90 (u8s z)
    rw [show (u8s z).length = 48 by simp [u8s, hz]] at this
    exact this
  · rw [setCells_secs w z l hz hl]
    exact h
theorem Own8.lower {w : World} {a b : Nat} {v : Value} {l : List Int} (h : Own8 w a v l) (hb : b ≤ a) : Own8 w b v l := by
  refine ⟨h.1, ?_⟩
  rcases h.2 with h | ⟨g, cap, cur, h1, h2, h3⟩
  · exact .inl h
  · exact .inr ⟨g, cap, cur, h1, by omega, h3⟩
/-- What a sector holds. -/
def atD (sec : List Sec) (lat : List (Int × Sec)) (i : Nat) : Sec := (getM lat (i : Int)).getD (sec.getD i [])
theorem look_lat {w : World} {b : Nat} {m : List (Int × Sec)} (h : MapAt w b ikey secV m) (k : Int) : (Instr.lookup 58 (.map (some b)) (.int .i64 k) true).run Tryz.prog w = .ok (.tuple #[secV ((getM m k).getD zsec), .bool (getM m k).isSome]) w := by
  cases hg : getM m k with
  | none => exact run_lookup_none ikey_keys Tryz.underlying58 h k hg true _ run_zero_sec
  | some v => exact run_lookup_some ikey_keys Tryz.underlying58 h k v hg true
theorem getM_len {m : List (Int × Sec)} {k : Int} {v : Sec} {P : Int × Sec → Prop} (h : ∀ e ∈ m, P e) (hg : getM m k = some v) : P (k, v) := by
  unfold getM at hg
  obtain ⟨e, he, rfl⟩ := Option.map_eq_some_iff.1 hg
  have h1 := List.find?_some he
  simp only [decide_eq_true_eq] at h1
  have := h e (List.mem_of_find?_eq_some he)
  rw [h1]
  exact this
set_option maxRecDepth 100000 in
set_option maxHeartbeats 2000000 in
theorem disk_Read_ok (i : Nat) (d g bs : Nat) (sec : List Sec) (lat : List (Int × Sec)) (fl : Int) (w : World) (h : DiskAt w d g bs sec lat fl) (hi : i < sec.length) :
    Calls Tryz.prog 16 #[.pointer (some ⟨d, 0, none⟩), .int .i64 i] w fun e w' => ∃ v, e = .returned (.tuple #[v, .int .i64 0]) ∧ Own8 w' w.heap.size v (atD sec lat i) ∧ (atD sec lat i).length = 48 ∧ Below w.heap.size w w' := by
  have hB := h.d
  have b0 := hB.cell 0
  have b1 := hB.cell 1
  have b2 := hB.cell 2
  simp only [List.getElem?_toArray, List.getElem?_cons_zero, List.getElem?_cons_succ] at b0 b1 b2
  have b9 := hB.lt
  have h0' : decide ((i : Int) < 0) = false := decide_eq_false (by omega)
  have h1' : decide ((sec.length : Int) ≤ (i : Int)) = false := decide_eq_false (by omega)
  have h1n : decide (sec.length ≤ i) = false := decide_eq_false (by omega)
  have hlk := look_lat h.m (i : Int)
  have HI := Lib.hid hi
  clear hi
  have hend : ∀ s : Sec, s.length = 48 → Calls Tryz.prog 40 #[.slice (some ⟨w.heap.size, 0, none⟩) 48 48] (w.alloc (.cells (u8s s).toArray 90)) fun e w' => ∃ v, e = .returned v ∧ Own8 w' w.heap.size v s ∧ Below w.heap.size w w' := fun s hs => by
    have hr : Row (w.alloc (.cells (u8s s).toArray 90)) 1 (some ⟨w.heap.size, 0, none⟩) s.length (u8s s) := Row.ofBlock (by simp [u8s]) (by omega) (heap_new _ _) (fun j u h => by simpa using h)
    have := bytes_Clone _ 48 s _ hr (by omega)
    rw [hs] at this
    refine this.mono ?_
    rintro e w' ⟨v, rfl, h1, h2⟩
    exact ⟨v, rfl, h1.lower (by simp), ((Below.refl _ w).alloc (Nat.le_refl _) _).trans (h2.mono (by simp))⟩
  cases hg : getM lat (i : Int) with
  | some s =>
    have hs : s.length = 48 := (getM_len (P := fun e => 0 ≤ e.1 ∧ e.1 < sec.length ∧ e.2.length = 48) h.k hg).2.2
    rw [hg] at hlk
    simp only [Option.getD_some, Option.isSome_some] at hlk
    have hat : atD sec lat i = s := by simp [atD, hg]
    rw [hat]
    clear hat hg
    have HS := Lib.hid hs
    replace hend := hend s hs
    go_enter Tryz.func16, Tryz.ntmps16
    go_wp2_with (first | (refine wpList_alloc_sec rfl rfl ?_) | (refine wpList_storeN_sec rfl _ _ rfl zsec s rfl rfl zsec_len HS.out ?_))
    refine hend.mono ?_
    rintro e w' ⟨v, rfl, h1, h2⟩
    go_wp2
    go_ret2
    exact ⟨v, rfl, h1, HS.out, h2⟩
  | none =>
    have hs : sec[i].length = 48 := h.l _ (List.getElem_mem HI.out)
    rw [hg] at hlk
    simp only [Option.getD_none, Option.isSome_none] at hlk
    have hat : atD sec lat i = sec[i] := by
      unfold atD
      rw [hg, Option.getD_none, List.getD_eq_getElem?_getD, List.getElem?_eq_getElem HI.out]
      rfl
    have hrg := World.rangeAt_alloc (h.range i HI.out) (.cells (u8s zsec).toArray 90)
    rw [hat]
    clear hat hg
    generalize sec[i] = s at *
    have HS := Lib.hid hs
    replace hend := hend s hs
    have HU := Lib.hid (show (u8s s).length = 48 by simpa [u8s] using hs)
    have HRG := Lib.hid hrg
    clear h hrg hs
    go_enter Tryz.func16, Tryz.ntmps16
    go_wp2_with (first | (refine wpList_alloc_sec rfl rfl ?_) | (refine wpList_load_sec rfl _ rfl _ _ rfl (u8s s) ?_ ?_ ?_; exact HU.out; exact HRG.out) | (refine wpList_storeN_sec rfl _ _ rfl zsec zsec rfl rfl zsec_len zsec_len ?_) | (refine wpList_storeN_sec rfl _ _ rfl zsec s rfl rfl zsec_len HS.out ?_))
    refine hend.mono ?_
    rintro e w' ⟨v, rfl, h1, h2⟩
    go_wp2
    go_ret2
    exact ⟨v, rfl, h1, HS.out, h2⟩
end Go.Proofs.YtnfaeafplaeehaaGreat
end
section
set_option linter.unusedVariables false
set_option linter.unusedSimpArgs false
namespace Go.Proofs.YtnfaeafplaeehaaGreat
open Go.RowKit
/-! A record loaded and stored: whole. -/
theorem size_rec : (Tryz.prog.info? 41).map (·.size) = some 9 := by kernel_rfl
theorem rec_range {w : World} {b : Nat} {r : Rec} (h : Blk w b 41 r.arr) : w.rangeAt b 0 r.cells := fun j v hv => by
  rw [h.cell]
  simpa [Rec.arr, Rec.cells] using hv
theorem run_load_rec {w : World} {b : Nat} {r : Rec} (h : Blk w b 41 r.arr) : (loadVar 41 ⟨b, 0, none⟩).run Tryz.prog w = .ok r.val w :=
  run_loadVar_mid (P := Tryz.prog) w b 0 41 r.cells _ (rec_range h) Tryz.underlying41 rfl size_rec
theorem wpList_load_rec {ops : Array Oper} {rest : List Oper} {op : Oper} {a : Act} {w : World} {Q : Exit → Act → World → Prop} (hgd : op.guard = none) (x : Operand) (ho : op.op = .load 41 x)
    (b : Nat) (hx : a.eval x = .pointer (some ⟨b, 0, none⟩)) (r : Rec) (hr : Blk w b 41 r.arr)
    (h : wpList Tryz.prog ops Q rest (a.put op.dst r.val) w) : wpList Tryz.prog ops Q (op :: rest) a w :=
  wpList_load_mid hgd _ x ho b 0 hx r.cells _ (rec_range hr) Tryz.underlying41 rfl size_rec h
theorem rec_stored {w : World} {b : Nat} {cs : Array Value} (r : Rec) (hr : Blk w b 41 cs) (hs : cs.size = 9) : Blk (w.setCells b 0 r.cells) b 41 r.arr ∧ Kept [b] w (w.setCells b 0 r.cells) := by
  refine ⟨?_, kept_setCells b _ _ _ _ (Kept.refl _ _)⟩
  have h1 := Blk.setCells r.cells 0 w cs.toList (by simpa using hr)
  have h2 := putL_mid r.cells [] cs.toList [] (by simp [hs, Rec.cells])
  simp only [List.append_nil, List.nil_append, List.length_nil] at h2
  rw [h2] at h1
  exact h1
theorem rec_there {w : World} {b : Nat} {cs : Array Value} (hr : Blk w b 41 cs) (hs : cs.size = 9) : w.there b 0 9 := fun j hj => by
  rw [hr.cell, hr.frozen]
  refine ⟨?_, rfl⟩
  rw [Nat.zero_add, Array.getElem?_eq_getElem (by omega)]
  rfl
theorem wpList_store_rec {ops : Array Oper} {rest : List Oper} {op : Oper} {a : Act} {w : World} {Q : Exit → Act → World → Prop} (hgd : op.guard = none) (x y : Operand) (ho : op.op = .store 41 x y)
    (b : Nat) (r : Rec) (cs : Array Value) (hx : a.eval x = .pointer (some ⟨b, 0, none⟩)) (hy : a.eval y = r.val) (hr : Blk w b 41 cs) (hs : cs.size = 9)
    (h : wpList Tryz.prog ops Q rest (a.put op.dst undef) (w.setCells b 0 r.cells)) : wpList Tryz.prog ops Q (op :: rest) a w :=
  wpList_store_mid hgd _ x y ho b 0 r.arr hx hy (rec_there hr hs) size_rec (by simp [Rec.arr, Value.oneCell']) h
theorem run_zero_rec (w : World) : (zeroValue 41).run Tryz.prog w = .ok (.agg #[.int .i64 0, .int .u32 0, .int .u32 0, .int .u32 0, .int .u32 0, .int .i64 0, .bool false, .int .u32 0, .int .u16 0]) w := Tryz.zeroValue41 w
end Go.Proofs.YtnfaeafplaeehaaGreat
end
