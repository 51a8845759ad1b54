/- Texts of this proof, one behind the other: lemmas for the row at the claim's end. No condition of their own. -/
import Derived.Test.YtgmdjhokcipajaaBase
import Derived.Laws.BytesArg
import Derived.Test.YtgmdjhokcipajaaRegion
import Derived.Test.YtgmdjhokcipajaaBytes4
import Derived.OpenShut
import Derived.Deep.Slices
import Derived.SizedLaws
import Derived.Test.YtgmdjhokcipajaaWMore
section
set_option linter.unusedVariables false
set_option linter.unusedSimpArgs false
namespace Go.Proofs.Ytgmdjhokcipajaa
open Go.RowKit
/-! Strings and their bytes. -/
theorem loop_eq (b : ByteArray) : ∀ (n i : Nat) (r : List UInt8), i + n = b.size → ByteArray.toList.loop b i r = r.reverse ++ b.data.toList.drop i
  | 0, i, r, h => by
    unfold ByteArray.toList.loop
    have hs : b.data.toList.length = b.size := by rw [Array.length_toList]; rfl
    rw [if_neg (by omega), List.drop_eq_nil_of_le (by omega), List.append_nil]
  | n + 1, i, r, h => by
    unfold ByteArray.toList.loop
    have hs : b.data.toList.length = b.size := by rw [Array.length_toList]; rfl
    have hi : i < b.data.toList.length := by omega
    have hi' : i < b.data.size := by rw [← Array.length_toList]; exact hi
    rw [if_pos (by omega), loop_eq b n (i + 1) _ (by omega), List.drop_eq_getElem_cons hi]
    have : b.get! i = b.data.toList[i] := by
      show b.data.getD i default = _
      simp [hi']
      rw [getElem?_pos b.data i hi']
      rfl
    rw [this]
    simp
theorem toList_eq (b : ByteArray) : b.toList = b.data.toList := by
  have := loop_eq b b.size 0 [] (by omega)
  simpa [ByteArray.toList] using this
theorem str_data (l : List Int) (h : Byte l) : (strOfNums l).data.toList.map (fun b => (b.toNat : Int)) = l := by
  rw [strOfNums_data, List.map_map]
  refine (List.map_congr_left (g := id) fun x hx => ?_).trans (List.map_id _)
  have := h x hx
  simp only [Function.comp, UInt8.toNat_ofNat', id]
  omega
theorem str_inj (l l' : List Int) (h : Byte l) (h' : Byte l') : (strOfNums l).toList = (strOfNums l').toList ↔ l = l' := by
  refine ⟨fun e => ?_, fun e => by rw [e]⟩
  rw [toList_eq, toList_eq] at e
  rw [← str_data l h, ← str_data l' h', e]
end Go.Proofs.Ytgmdjhokcipajaa
end
section
set_option linter.unusedVariables false
set_option linter.unusedSimpArgs false
namespace Go.Proofs.Ytgmdjhokcipajaa
open Go.RowKit
/-! A call that only draws, in a region in which a new variable may be made at any time: the call may be taken first. -/
theorem wpAnyM_succ {P : Program} {md : Region.Mode} {ops : Array Oper} {Q : Exit → Act → World → Prop} {ds : List Nat} {R : World → World → Prop} {fuel : Nat} {listed : Array Bool} {a : Act} {w : World} : wpAnyM P md ops Q ds R (fuel + 1) listed a w ↔
    (Region.ready md ops listed = [] → Q .normal a w) ∧ ∀ i ∈ Region.ready md ops listed, wpOp P ops Q i (fun a' w' => (i ∉ ds → R w w') ∧ wpAnyM P md ops Q ds R fuel (listed.setIfInBounds i true) a' w') a w := by with_unfolding_all exact Iff.rfl
theorem wpAnyM_zero {P : Program} {md : Region.Mode} {ops : Array Oper} {Q : Exit → Act → World → Prop} {ds : List Nat} {R : World → World → Prop} {listed : Array Bool} {a : Act} {w : World} : wpAnyM P md ops Q ds R 0 listed a w ↔ Region.ready md ops listed = [] ∧ Q .normal a w := by with_unfolding_all exact Iff.rfl
section
variable {P : Program} {ops : Array Oper} {Q : Exit → Act → World → Prop} {md : Region.Mode} {ds : List Nat} {R : World → World → Prop} [LR R]
/-- An operation that makes a variable. -/
def AllocLike (P : Program) (o : Oper) : Prop := ∃ obj, ∀ (a : Act) (w : World), (execOp a.eval o).run P w = .ok (.value (.pointer (some ⟨w.heap.size, 0, none⟩))) (w.alloc obj) ∧ ¬ o.asks P a w
theorem alloc_drewN (w : World) (obj : Obj) (n : Nat) : (w.drewN n).alloc obj = (w.alloc obj).drewN n := rfl
omit [LR R] in
theorem wpOp_alloc {j : Nat} {oj : Oper} {obj : Obj} (hoj : ops[j]? = some oj) (hA : ∀ (a : Act) (w : World), (execOp a.eval oj).run P w = .ok (.value (.pointer (some ⟨w.heap.size, 0, none⟩))) (w.alloc obj) ∧ ¬ oj.asks P a w) (a : Act) (hw : Region.wanted oj (yielded ops a.tmps) = true)
    (K : Act → World → Prop) (w : World) : wpOp P ops Q j K a w ↔ K (a.put oj.dst (.pointer (some ⟨w.heap.size, 0, none⟩))) (w.alloc obj) := by
  unfold wpOp
  simp only [hoj, hw, if_true]
  unfold Oper.wp
  rw [(hA a w).1]
  simp only [Oper.upon]
  exact ⟨fun h' => h'.resolve_right fun h'' => (hA a w).2 h''.1, .inl⟩
omit [LR R] in
theorem wpOp_off {j : Nat} {oj : Oper} (hoj : ops[j]? = some oj) (a : Act) (hw : ¬ Region.wanted oj (yielded ops a.tmps) = true) (K : Act → World → Prop) (w : World) : wpOp P ops Q j K a w ↔ K (a.put oj.dst undef) w := by
  unfold wpOp
  simp only [hoj, hw, Bool.false_eq_true, if_false]
/-- In every world that meets S the operation leaves 'v' and the world drawn from once. -/
def YieldsD (P : Program) (ops : Array Oper) (S : World → Prop) (o : Oper) (v : Value) (a : Act) : Prop :=
  Region.wanted o (yielded ops a.tmps) = true ∧ ∀ w, S w → ∃ f args, (execOp a.eval o).run P w = .ok (.enter f args) w ∧ Calls P f args w fun e w' => e = .returned v ∧ w' = w.drew
omit [LR R] in
theorem YieldsD.wpOp {S : World → Prop} {i : Nat} {o : Oper} {v : Value} {a : Act} (hi : ops[i]? = some o) (hy : YieldsD P ops S o v a) {K : Act → World → Prop} {w : World} (hS : S w) (h : K (a.put o.dst v) w.drew) : wpOp P ops Q i K a w := by
  unfold Go.wpOp
  simp only [hi, hy.1, if_true]
  obtain ⟨f, args, e1, hc⟩ := hy.2 w hS
  refine .inl ?_
  unfold Oper.wp
  rw [e1]
  exact hc.mono fun e w'' ⟨he, hw''⟩ => by subst he; subst hw''; exact h
omit [LR R] in
theorem YieldsD.put {S : World → Prop} {o oj : Oper} {v u : Value} {a : Act} (hap : o.apart ops oj = true) (hsi : ∀ cs b, o.op ≠ .select cs b) (hy : YieldsD P ops S o v a) : YieldsD P ops S o v (a.put oj.dst u) := by
  obtain ⟨h1, h2, h3⟩ := Oper.apart_spec hap
  unfold YieldsD at *
  rw [execOp_put o hsi a oj.dst u h3, wanted_put o a oj.dst u h3]
  exact hy
theorem wpAnyM_call {i : Nat} {oi : Oper} {v : Value} {w0 : World} (hi : ops[i]? = some oi) (hsel : ∀ (j : Nat) (o : Oper) cs b, ops[j]? = some o → o.op ≠ .select cs b) (n : Nat) (hR : ∀ w : World, R w w.drew) (hRa : ∀ (w : World) obj, R w (w.alloc obj)) :
    ∀ (fuel : Nat) (listed : Array Bool) (a : Act) (w : World),
      (∀ j oj, ops[j]? = some oj → j ≠ i → listed.getD j true = false → reachB md ops i n j = false → AllocLike P oj ∧ oi.apart ops oj = true ∧ j ∉ ds) →
      ListedClosed md ops listed → i ∈ Region.ready md ops listed → YieldsD P ops (R w0) oi v a → R w0 w →
      (∀ m, wpAnyM P md ops Q ds R fuel (listed.setIfInBounds i true) (a.put oi.dst v) (w.drewN m)) → wpAnyM P md ops Q ds R (fuel + 1) listed a w := by
  intro fuel
  induction fuel with
  | zero =>
    intro listed a w _ _ hr hy hS H
    rw [wpAnyM_succ]
    refine ⟨fun h => (by rw [h] at hr; cases hr), fun j hj => ?_⟩
    by_cases hji : j = i
    · subst hji
      refine hy.wpOp hi hS ⟨fun _ => hR _, ?_⟩
      exact H 1
    · have := ready_mono hj hji
      rw [(wpAnyM_zero.1 (H 0)).1] at this
      cases this
  | succ fuel ih =>
    intro listed a w hfree hc hr hy hS H
    have H1 := H 1
    rw [wpAnyM_succ]
    refine ⟨fun h => (by rw [h] at hr; cases hr), fun j hj => ?_⟩
    by_cases hji : j = i
    · subst hji
      exact hy.wpOp hi hS ⟨fun _ => hR _, H1⟩
    clear H1
    obtain ⟨hjun, oj, hoj, hall⟩ := mem_ready.1 hj
    have hiun := (mem_ready.1 hr).1
    have hnr : reachB md ops i n j = false := by
      cases hb : reachB md ops i n j with
      | false => rfl
      | true => exact absurd hj (reach_not_ready hc hb hiun)
    obtain ⟨⟨obj, hA⟩, hap, hjd⟩ := hfree j oj hoj hji hjun hnr
    obtain ⟨p1, p2, p3⟩ := Oper.apart_spec hap
    have hfree' : ∀ k ok, ops[k]? = some ok → k ≠ i → (listed.setIfInBounds j true).getD k true = false → reachB md ops i n k = false → AllocLike P ok ∧ oi.apart ops ok = true ∧ k ∉ ds := by
      intro k ok hk' hki hun hno
      refine hfree k ok hk' hki ?_ hno
      by_cases hjk : j = k
      · subst hjk; exact hjun
      · rw [getD_set_ne true hjk] at hun; exact hun
    have hgo : ∀ u w1, R w w1 → (∀ m, wpAnyM P md ops Q ds R fuel ((listed.setIfInBounds i true).setIfInBounds j true) ((a.put oi.dst v).put oj.dst u) (w1.drewN m)) → wpAnyM P md ops Q ds R (fuel + 1) (listed.setIfInBounds j true) (a.put oj.dst u) w1 := by
      intro u w1 hw1 h1
      refine ih (listed.setIfInBounds j true) (a.put oj.dst u) w1 hfree' (hc.set hj) (ready_mono hr (Ne.symm hji)) (hy.put hap (fun cs b => hsel i oi cs b hi)) (LR.trans hS hw1) fun m => ?_
      have := h1 m
      rw [Array.setIfInBounds_comm _ _ (Ne.symm hji), Act.put_comm a v u p2] at this
      exact this
    have hm := fun m => by
      exact (wpAnyM_succ.1 (H m)).2 j (ready_mono hj hji)
    by_cases hw : Region.wanted oj (yielded ops a.tmps) = true
    · rw [wpOp_alloc hoj hA a hw]
      refine ⟨fun _ => hRa _ _, hgo _ _ (hRa _ _) fun m => ?_⟩
      have h1 := hm m
      rw [wpOp_alloc hoj hA (a.put oi.dst v) (by rw [wanted_put oj a oi.dst v p1]; exact hw)] at h1
      exact h1.2
    · rw [wpOp_off hoj a hw]
      refine ⟨fun _ => LR.refl _, hgo _ _ (LR.refl _) fun m => ?_⟩
      have h1 := hm m
      rw [wpOp_off hoj (a.put oi.dst v) (by rw [wanted_put oj a oi.dst v p1]; exact hw)] at h1
      exact h1.2
/-- What may come up ahead of operation i: only new variables of type T. -/
def callB (md : Region.Mode) (ops : Array Oper) (ds : List Nat) (T : TypeId) (listed : Array Bool) (i : Nat) : Bool :=
  (Region.ready md ops listed).contains i && closedB md ops listed && (List.range ops.size).all fun j => listed.getD j true || j == i || reachB md ops i ops.size j ||
    match ops[i]?, ops[j]? with
    | some oi, some oj => (match oj.op with | .alloc t => t == T | _ => false) && oi.apart ops oj && !ds.contains j
    | _, _ => false
theorem draw_call {i : Nat} {o : Oper} {t : List Oper} {fuel : Nat} {listed listed' : Array Bool} {a : Act} {w : World} {v : Value} (T : TypeId) (ho : ops.toList.drop i = o :: t) (hb : callB md ops ds T listed i = true) (hs : Region.noSelect ops = true)
    (hal : ∀ oj : Oper, oj.op = .alloc T → AllocLike P oj) (hR : ∀ w : World, R w w.drew) (hRa : ∀ (w : World) obj, R w (w.alloc obj)) (hl : listed.setIfInBounds i true = listed') (hw : Region.wanted o (yielded ops a.tmps) = true)
    (hy : ∀ w', R w w' → ∃ f args, (execOp a.eval o).run P w' = .ok (.enter f args) w' ∧ Calls P f args w' fun e w'' => e = .returned v ∧ w'' = w'.drew)
    (H : ∀ m, wpAnyM P md ops Q ds R fuel listed' (a.put o.dst v) (w.drewN m)) : wpAnyM P md ops Q ds R (fuel + 1) listed a w := by
  subst hl
  simp only [callB, Bool.and_eq_true, List.contains_eq_mem, decide_eq_true_eq] at hb
  obtain ⟨⟨b1, b2⟩, b3⟩ := hb
  have hi := at_drop ho
  refine wpAnyM_call hi (Region.noSelect_spec hs) ops.size hR hRa fuel listed a w (fun j oj hj hji hun hno => ?_) (closed_spec b2) b1 ⟨hw, hy⟩ (LR.refl w) H
  have hlt : j < ops.size := (Array.getElem?_eq_some_iff.1 hj).1
  have h1 := List.all_eq_true.1 b3 j (List.mem_range.2 hlt)
  rw [hun, hno, hi, hj] at h1
  have hne : (j == i) = false := beq_eq_false_iff_ne.2 hji
  simp only [hne, Bool.false_or, Bool.and_eq_true, Bool.not_eq_true', List.contains_eq_mem, decide_eq_false_iff_not] at h1
  obtain ⟨⟨h2, h3⟩, h4⟩ := h1
  refine ⟨?_, h3, h4⟩
  split at h2
  · rename_i t' ht
    have : t' = T := by simpa using h2
    subst this
    exact hal oj ht
  · cases h2
end
end Go.Proofs.Ytgmdjhokcipajaa
end
section
set_option linter.unusedVariables false
set_option linter.unusedSimpArgs false
namespace Go.Proofs.Ytgmdjhokcipajaa
open Go.RowKit
theorem law05_four (n : Int) (w : World) (h : 0 ≤ n ∧ n ≤ 4294967295) : Calls Try.prog 32 #[.int .u32 n] w
    fun e w' => e = .returned (.slice (some ⟨w.heap.size, 0, none⟩) 4 4) ∧ w' = w.alloc (.cells (u8s (four n)).toArray 5) := by
  obtain ⟨h0, h1⟩ := h
  have E := Lib.hid (show (u8s (four n)).toArray = #[.int .u8 (n / 16777216), .int .u8 (n / 65536 % 256), .int .u8 (n / 256 % 256), .int .u8 (n % 256)] by
    simp only [u8s, four, List.map_cons, List.map_nil]
    rw [show n / 16777216 % 256 = n / 16777216 by omega])
  go_enter Try.func32, Try.ntmps32
  go_wp2
  go_ret
  refine ⟨rfl, ?_⟩
  rw [E.out]
end Go.Proofs.Ytgmdjhokcipajaa
end
section
set_option linter.unusedVariables false
set_option linter.unusedSimpArgs false
namespace Go.Proofs.Ytgmdjhokcipajaa
open Go.RowKit Go.ChangeShapes Go.WideShapes Go.Deep

/-- What is known of the cells of a value that came in and could be read: their kinds, and that all sizes are within the reach. -/
def Op (P : Program) (W : World) : Nat → TypeId → List Value → Prop
  | 0, _, _ => False
  | n + 1, t, cs =>
    match P.underlying t with
    | some .bool => ∃ b, cs = [.bool b]
    | some (.int k) => ∃ x, cs = [.int k x] ∧ (Lit.int k x).wf = true
    | some .string => ∃ s : ByteArray, cs = [.string s] ∧ s.size ≤ 140737488351232
    | some (.slice e) => cs = [.slice none 0 0] ∨ ∃ (a : Addr) (len cap : Nat), cs = [.slice (some a) len cap] ∧ len ≤ cap ∧ len * P.bytesOf e ≤ 140737488351232 ∧
        ∀ i, i < len → ∃ cs', W.cells? 0 (a.add (i * P.cellsOf e)) (P.cellsOf e) = some cs' ∧ Op P W n e cs'
    | some (.struct fs) => cs.length = P.cellsOf t ∧ ∀ (i : Nat) (f : Field), fs[i]? = some f → Op P W n f.type ((cs.drop f.offset).take (P.cellsOf f.type))
    | some (.array k e) => cs.length = P.cellsOf t ∧ ∀ i, i < k → Op P W n e ((cs.drop (i * P.cellsOf e)).take (P.cellsOf e))
    | _ => True

section
variable {H : Type} {enc : TypeId × Value → H} {P : Program} {W : World}
theorem weightsAll_mem {e : TypeId} : ∀ {l : List (DataW H)} {i : Nat} {d : DataW H}, l[i]? = some d → ∀ n ∈ d.weights P e, n ∈ DataW.weightsAll P e l
  | d0 :: l, 0, d, h, n, hn => by
    simp only [List.getElem?_cons_zero, Option.some.injEq] at h
    subst h
    simp only [DataW.weightsAll, List.mem_append]
    exact .inl hn
  | d0 :: l, i + 1, d, h, n, hn => by
    simp only [List.getElem?_cons_succ] at h
    simp only [DataW.weightsAll, List.mem_append]
    exact .inr (weightsAll_mem h n hn)
  | [], _, _, h, _, _ => by simp at h

theorem Op.of_trod {spare : Nat → Bool} {held : Bool} : ∀ (n : Nat) (t : TypeId) (cs : List Value) (d : DataW H) (ps : List MemPlace), DataW.trod enc P W 0 spare held n t cs = some (d, ps) →
    (∀ m ∈ d.weights P t, m ≤ 140737488351232) → Op P W n t cs := by
  intro n
  induction n with
  | zero => intro t cs d ps h; simp [DataW.trod] at h
  | succ n ih =>
    intro t cs d ps h hw
    unfold Op
    cases hu : P.underlying t with
    | none => trivial
    | some u =>
      cases u with
      | bool =>
        obtain ⟨b, rfl, _⟩ := DataW.trod_bool hu h
        exact ⟨b, rfl⟩
      | int k =>
        obtain ⟨x, rfl, _, hx⟩ := DataW.trod_int hu h
        exact ⟨x, rfl, hx⟩
      | string =>
        obtain ⟨s, rfl, hx, hs⟩ := DataW.trod_string hu h
        obtain ⟨rfl, -⟩ := Prod.mk.inj hx
        refine ⟨s, rfl, ?_⟩
        have := hw s.data.toList.length (by simp [DataW.weights])
        simpa using this
      | slice e =>
        rcases DataW.trod_slice hu h with ⟨rfl, _⟩ | ⟨a, len, cap, elems, rest, m, hn, rfl, hx, hb, hl, hm, hlen, hel, _⟩
        · exact .inl rfl
        · obtain rfl : m = n := by omega
          obtain ⟨rfl, -⟩ := Prod.mk.inj hx
          simp only [DataW.weights, hu, List.mem_cons, List.mem_append] at hw
          refine .inr ⟨a, len, cap, rfl, hl, ?_, fun i hi => ?_⟩
          · have h1 := hw _ (.inl rfl)
            simp only [List.length_map] at h1
            exact Nat.le_trans (Nat.mul_le_mul_right _ (by omega)) h1
          · have h1 := hel i hi
            rw [List.getElem?_eq_getElem (by omega)] at h1
            obtain ⟨cs', h2, h3⟩ := Option.bind_eq_some_iff.mp h1
            refine ⟨cs', h2, ih e cs' _ _ h3 fun m hm => hw m (.inr (.inl ?_))⟩
            exact weightsAll_mem (i := i) (by simp [List.getElem?_eq_getElem (show i < elems.length by omega)]) m hm
      | struct fs =>
        obtain ⟨xs, m, hn, hx, hl, hxl, hg⟩ := DataW.trod_struct hu h
        obtain rfl : m = n := by omega
        obtain ⟨rfl, -⟩ := Prod.mk.inj hx
        simp only [DataW.weights, hu] at hw
        refine ⟨hl, fun i f hf => ?_⟩
        have h1 := hg i f hf
        have hi : i < fs.size := (Array.getElem?_eq_some_iff.1 hf).1
        rw [List.getElem?_eq_getElem (by omega)] at h1
        refine ih f.type _ _ _ h1 fun m hm => hw m (DataW.weights_mem_each (j := i) (t := f.type) (d := (xs[i]'(by omega)).1) ?_ ?_ m hm)
        · simp [hf]
        · simp [List.getElem?_eq_getElem (show i < xs.length by omega)]
      | array k e =>
        obtain ⟨xs, m, hn, hx, hl, hxl, hg⟩ := DataW.trod_array hu h
        obtain rfl : m = n := by omega
        obtain ⟨rfl, -⟩ := Prod.mk.inj hx
        simp only [DataW.weights, hu] at hw
        refine ⟨hl, fun i hi => ?_⟩
        have h1 := hg i hi
        rw [List.getElem?_eq_getElem (by omega)] at h1
        exact ih e _ _ _ h1 fun m hm => hw m (weightsAll_mem (i := i) (by simp [List.getElem?_eq_getElem (show i < xs.length by omega)]) m hm)
      | _ => trivial

/-- The form in which a row hands it on. -/
def Opens (P : Program) (W : World) (t : TypeId) (v : Value) : Prop := ∃ n, Op P W n t v.cells.toList
theorem Opens.of_trod {spare : Nat → Bool} {held : Bool} {t : TypeId} {v : Value} {d : DataW H} {ps : List MemPlace} {ts : List TypeId} {ds : List (DataW H)} {j : Nat}
    (h : DataW.Trod enc P W 0 spare held t v d ps) (hsz : (DataW.weightsEach P ts ds).all (· ≤ reachBytes) = true) (ht : ts[j]? = some t) (hd : ds[j]? = some d) : Opens P W t v := by
  obtain ⟨n, h⟩ := h
  refine ⟨n, Op.of_trod n t _ d ps h fun m hm => ?_⟩
  have := List.all_eq_true.1 hsz m (DataW.weights_mem_each ht hd m hm)
  exact of_decide_eq_true this
end
/-- A choice for each place of a list. -/
theorem exists_list {α : Type} {p : Nat → α → Prop} : ∀ {n : Nat}, (∀ i, i < n → ∃ a, p i a) → ∃ l : List α, l.length = n ∧ ∀ i (h : i < l.length), p i l[i]
  | 0, _ => ⟨[], rfl, fun i h => by simp at h⟩
  | n + 1, h => by
    obtain ⟨l, hl, hp⟩ := exists_list (n := n) fun i hi => h i (by omega)
    obtain ⟨a, ha⟩ := h n (by omega)
    refine ⟨l ++ [a], by simp [hl], fun i hi => ?_⟩
    rw [List.getElem_append]
    split
    · exact hp i _
    · rename_i h1
      have : i = n := by simp at hi; omega
      subst this
      simpa [hl] using ha
end Go.Proofs.Ytgmdjhokcipajaa
end
section
set_option linter.unusedVariables false
set_option linter.unusedSimpArgs false
namespace Go.Proofs.Ytgmdjhokcipajaa
open Go.RowKit Go.ChangeShapes Go.WideShapes

theorem Op.int {P : Program} {W : World} {n : Nat} {t : TypeId} {k : IntKind} {cs : List Value} (hu : P.underlying t = some (.int k)) (h : Op P W n t cs) : ∃ x, cs = [.int k x] ∧ (Lit.int k x).wf = true := by
  cases n with
  | zero => exact h.elim
  | succ n => unfold Op at h; rw [hu] at h; exact h
theorem Op.bool {P : Program} {W : World} {n : Nat} {t : TypeId} {cs : List Value} (hu : P.underlying t = some .bool) (h : Op P W n t cs) : ∃ b, cs = [.bool b] := by
  cases n with
  | zero => exact h.elim
  | succ n => unfold Op at h; rw [hu] at h; exact h
theorem Op.struct {P : Program} {W : World} {n : Nat} {t : TypeId} {fs : Array Field} {cs : List Value} (hu : P.underlying t = some (.struct fs)) (h : Op P W n t cs) :
    cs.length = P.cellsOf t ∧ ∃ m, ∀ (i : Nat) (f : Field), fs[i]? = some f → Op P W m f.type ((cs.drop f.offset).take (P.cellsOf f.type)) := by
  cases n with
  | zero => exact h.elim
  | succ n => unfold Op at h; rw [hu] at h; exact ⟨h.1, n, h.2⟩

/-- A slice of plain cells: what each element is. -/
theorem Opens.slice {P : Program} {W : World} {t e : TypeId} {A : Option Addr} {n c : Nat} {B : Nat} (hu : P.underlying t = some (.slice e)) (hB : P.bytesOf e = B) (h : Opens P W t (.slice A n c)) :
    n * B ≤ 140737488351232 ∧ (0 < n → ∃ a, A = some a ∧ ∀ i, i < n → ∃ m cs', W.cells? 0 (a.add (i * P.cellsOf e)) (P.cellsOf e) = some cs' ∧ Op P W m e cs') := by
  obtain ⟨f, h⟩ := h
  cases f with
  | zero => exact h.elim
  | succ f =>
    unfold Op at h
    rw [hu] at h
    simp only [Value.cells] at h
    rcases h with h | ⟨a, len, cap, h, hlc, hlen, hel⟩
    · simp at h
      obtain ⟨rfl, rfl, rfl⟩ := h
      exact ⟨by simp, fun h => absurd h (by simp)⟩
    · simp at h
      obtain ⟨rfl, rfl, rfl⟩ := h
      rw [hB] at hlen
      refine ⟨hlen, fun _ => ⟨a, rfl, fun i hi => ?_⟩⟩
      obtain ⟨cs', h1, h2⟩ := hel i hi
      exact ⟨f, cs', h1, h2⟩
/-- A slice whose elements have one cell each, read as a row: 'p' tells what an element is, 'g' its cell. -/
theorem Opens.row1 {P : Program} {W : World} {t e : TypeId} {A : Option Addr} {n c : Nat} {B : Nat} {α : Type} (g : α → Value) (p : α → Prop) (hu : P.underlying t = some (.slice e)) (hB : P.bytesOf e = B) (hB1 : 1 ≤ B) (hC : P.cellsOf e = 1)
    (hp : ∀ m cs', Op P W m e cs' → ∃ x, cs' = [g x] ∧ p x) (h : Opens P W t (.slice A n c)) :
    ∃ l : List α, l.length = n ∧ (∀ x ∈ l, p x) ∧ Row W 1 A n (l.map g) ∧ n * B ≤ 140737488351232 := by
  obtain ⟨hn, hel⟩ := Opens.slice hu hB h
  have hn' : n ≤ 140737488351232 := Nat.le_trans (by exact Nat.le_mul_of_pos_right n hB1) hn
  rcases Nat.eq_zero_or_pos n with rfl | h0
  · exact ⟨[], rfl, fun x hx => by simp at hx, ⟨rfl, by decide, fun h => absurd h (by simp)⟩, hn⟩
  · obtain ⟨a, rfl, hcs⟩ := hel h0
    have key : ∀ i, i < n → ∃ x : α, W.cell? (a.add i) = some (g x) ∧ p x := by
      intro i hi
      obtain ⟨m, cs', h1, h2⟩ := hcs i hi
      rw [hC] at h1
      obtain ⟨x, rfl, hx⟩ := hp m cs' h2
      obtain ⟨_, hcl, hat⟩ := World.cells?_some h1
      have := hat 0 (by omega)
      exact ⟨x, by simpa [Nat.mul_one, Addr.add] using this, hx⟩
    obtain ⟨l, hl, hq⟩ := exists_list key
    subst hl
    refine ⟨l, rfl, fun x hx => ?_, ⟨by simp, hn', fun _ => ?_⟩, hn⟩
    · obtain ⟨i, hi, rfl⟩ := List.mem_iff_getElem.mp hx
      exact (hq i hi).2
    · obtain ⟨c0, -⟩ := hq 0 h0
      have hs : a.spot = none := by
        cases hs : a.spot with
        | none => rfl
        | some s => simp [World.cell?, Addr.add, hs] at c0; split at c0 <;> simp at c0
      obtain ⟨b, off, sp⟩ := a
      simp only at hs
      subst hs
      refine ⟨b, off, rfl, World.block_lt_of_cell? W _ c0, fun j u hj => ?_⟩
      have hjl : j < l.length := by
        rcases Nat.lt_or_ge j l.length with h | h
        · exact h
        · rw [List.getElem?_eq_none (by simpa using h)] at hj; cases hj
      rw [List.getElem?_map, List.getElem?_eq_getElem hjl] at hj
      obtain rfl := Option.some.inj hj
      obtain ⟨c1, -⟩ := hq j hjl
      rw [← c1]
      congr 1
      unfold Addr.add
      split <;> simp_all
/-- A slice whose elements have 'm' cells each, read as a row: 'p' tells what an element is, 'g' its cells. -/
theorem Opens.rowm {P : Program} {W : World} {t e : TypeId} {A : Option Addr} {n c : Nat} {B M : Nat} {α : Type} (g : α → List Value) (p : α → Prop) (hg : ∀ x, (g x).length = M) (hM : 1 ≤ M) (hu : P.underlying t = some (.slice e)) (hB : P.bytesOf e = B) (hB1 : 1 ≤ B) (hC : P.cellsOf e = M)
    (hp : ∀ m cs', Op P W m e cs' → ∃ x, cs' = g x ∧ p x) (h : Opens P W t (.slice A n c)) :
    ∃ l : List α, l.length = n ∧ (∀ x ∈ l, p x) ∧ Row W M A n (l.flatMap g) ∧ n * B ≤ 140737488351232 := by
  obtain ⟨hn, hel⟩ := Opens.slice hu hB h
  have hn' : n ≤ 140737488351232 := Nat.le_trans (by exact Nat.le_mul_of_pos_right n hB1) hn
  rcases Nat.eq_zero_or_pos n with rfl | h0
  · exact ⟨[], rfl, fun x hx => by simp at hx, ⟨by simp, by decide, fun h => absurd h (by simp)⟩, hn⟩
  · obtain ⟨a, rfl, hcs⟩ := hel h0
    have key : ∀ i, i < n → ∃ x : α, (∀ j, j < M → W.cell? (a.add (i * M + j)) = (g x)[j]?) ∧ p x := by
      intro i hi
      obtain ⟨m, cs', h1, h2⟩ := hcs i hi
      rw [hC] at h1
      obtain ⟨x, rfl, hx⟩ := hp m cs' h2
      obtain ⟨_, hcl, hat⟩ := World.cells?_some h1
      refine ⟨x, fun j hj => ?_, hx⟩
      rw [← hat j hj, Deep.add_add]
    obtain ⟨l, hl, hq⟩ := exists_list key
    subst hl
    have hcell : ∀ j, j < l.length * M → W.cell? (a.add j) = (l.flatMap g)[j]? := by
      intro j hj
      have hM0 : 0 < M := hM
      have hi : j / M < l.length := Nat.div_lt_of_lt_mul (by rw [Nat.mul_comm]; exact hj)
      have hr : j % M < M := Nat.mod_lt _ hM0
      have e : j = j / M * M + j % M := by rw [Nat.mul_comm]; exact (Nat.div_add_mod j M).symm
      have h1 := (hq (j / M) hi).1 (j % M) hr
      rw [← flat_get g M hg l (j / M) (j % M) hi hr, ← e] at h1
      exact h1
    refine ⟨l, rfl, fun x hx => ?_, ⟨flat_len g M hg l, hn', fun _ => ?_⟩, hn⟩
    · obtain ⟨i, hi, rfl⟩ := List.mem_iff_getElem.mp hx
      exact (hq i hi).2
    · have hlt0 : 0 < (l.flatMap g).length := by rw [flat_len g M hg l]; exact Nat.mul_pos h0 hM
      have c0 := hcell 0 (Nat.mul_pos h0 hM)
      rw [List.getElem?_eq_getElem hlt0] at c0
      have hs : a.spot = none := by
        cases hs : a.spot with
        | none => rfl
        | some s => simp [World.cell?, Addr.add, hs] at c0; split at c0 <;> simp at c0
      obtain ⟨b, off, sp⟩ := a
      simp only at hs
      subst hs
      refine ⟨b, off, rfl, World.block_lt_of_cell? W _ c0, fun j u hj => ?_⟩
      have hjl : j < l.length * M := by
        rcases Nat.lt_or_ge j (l.length * M) with h | h
        · exact h
        · rw [List.getElem?_eq_none (by rw [flat_len g M hg l]; exact h)] at hj; cases hj
      rw [← hj, ← hcell j hjl]
      congr 1
      unfold Addr.add
      split <;> simp_all
end Go.Proofs.Ytgmdjhokcipajaa
end
section
set_option maxRecDepth 100000
set_option linter.unusedVariables false
set_option linter.unusedSimpArgs false
namespace Go.Proofs.Ytgmdjhokcipajaa
open Go.RowKit Go.ChangeShapes Go.WideShapes
open Go.Proofs.YtgmdjhokcipajaaW.PrintWords (Kd)
/-! Arguments as the printed walks ask for them. -/
theorem Op.string {P : Program} {W : World} {n : Nat} {t : TypeId} {cs : List Value} (hu : P.underlying t = some .string) (h : Op P W n t cs) : ∃ s : ByteArray, cs = [.string s] ∧ s.size ≤ 140737488351232 := by
  cases n with
  | zero => exact h.elim
  | succ n => unfold Op at h; rw [hu] at h; exact h
theorem opens_le {P : Program} {W : World} {t e : TypeId} {A : Option Addr} {n c : Nat} (hu : P.underlying t = some (.slice e)) (h : Opens P W t (.slice A n c)) : n ≤ c := by
  obtain ⟨m, h⟩ := h
  cases m with
  | zero => exact h.elim
  | succ m =>
    unfold Op at h
    rw [hu] at h
    rcases h with h | ⟨a, len, cap, h, hl, -⟩
    · simp [Value.cells] at h
      omega
    · simp [Value.cells] at h
      omega
theorem C_of_row {α : Type} {d : Kd α} {W : World} {A : Option Addr} {L : List α} (g : α → List Value) (M : Nat) (hM : ∀ x, (g x).length = M) (hsz : d.sz = M) (hK : ∀ x, d.K W x (g x)) (h : Row W M A L.length (L.flatMap g)) : d.C W A L.length L := by
  obtain ⟨-, h2, h3⟩ := h
  refine ⟨rfl, by omega, fun hn => ?_⟩
  obtain ⟨b, off, e, -, hc⟩ := h3 hn
  refine ⟨_, e, fun j p hj => ⟨g p, by rw [hM, hsz], hK p, fun i u hu => ?_⟩⟩
  have hjl : j < L.length := (List.getElem?_eq_some_iff.1 hj).1
  have hil : i < M := by
    have := (List.getElem?_eq_some_iff.1 hu).1
    rw [hM] at this
    exact this
  have hp : L[j] = p := by rw [List.getElem?_eq_getElem hjl] at hj; exact Option.some.inj hj
  have hf := Ytgmdjhokcipajaa.flat_get g M hM L j i hjl hil
  rw [hp, hu] at hf
  have := hc _ _ hf
  rw [hsz]
  have e2 : (⟨b, off, none⟩ : Addr).add (j * M + i) = ⟨b, off + (j * M + i), none⟩ := by
    unfold Addr.add
    split
    · rename_i h0; rw [h0]; rfl
    · rfl
  rw [e2]
  exact this
theorem C_of_bytes {W : World} {A : Option Addr} {L : List Int} (h : Row W 1 A L.length (L.map (Value.int .u8))) : Kd.C (Kd.int .u8) W A L.length L := by
  refine C_of_row (fun x => [Value.int .u8 x]) 1 (fun _ => rfl) rfl (fun x => rfl) ?_
  rw [show L.flatMap (fun x => [Value.int .u8 x]) = L.map (Value.int .u8) from by clear h; induction L <;> simp_all]
  exact h
end Go.Proofs.Ytgmdjhokcipajaa
end
section
set_option maxRecDepth 100000
set_option linter.unusedVariables false
set_option linter.unusedSimpArgs false
namespace Go.Proofs.Ytgmdjhokcipajaa
open Go.RowKit Go.ChangeShapes Go.WideShapes

theorem Opens.int {W : World} {b0 : Nat} {v : Value} (hv : Value.okWide Try.prog W .any b0 3 v) (h : Opens Try.prog W 3 v) : ∃ x, v = .int .i64 x ∧ -9223372036854775808 ≤ x ∧ x ≤ 9223372036854775807 := by
  obtain ⟨x, rfl⟩ := okWide_int Try.underlying3 hv
  obtain ⟨n, h⟩ := h
  obtain ⟨y, hy, wy⟩ := Op.int Try.underlying3 h
  simp [Value.cells] at hy
  subst hy
  exact ⟨x, rfl, bounds_i64 wy⟩
theorem Opens.u32 {W : World} {b0 : Nat} {v : Value} (hv : Value.okWide Try.prog W .any b0 24 v) (h : Opens Try.prog W 24 v) : ∃ x, v = .int .u32 x ∧ 0 ≤ x ∧ x ≤ 4294967295 := by
  obtain ⟨x, rfl⟩ := okWide_int Try.underlying24 hv
  obtain ⟨n, h⟩ := h
  obtain ⟨y, hy, wy⟩ := Op.int Try.underlying24 h
  simp [Value.cells] at hy
  subst hy
  exact ⟨x, rfl, bounds_u32 wy⟩
end Go.Proofs.Ytgmdjhokcipajaa
end
section
set_option maxRecDepth 100000
set_option linter.unusedVariables false
set_option linter.unusedSimpArgs false
namespace Go.Proofs.Ytgmdjhokcipajaa
open Go.RowKit Go.ChangeShapes Go.WideShapes
theorem Opens.u8 {W : World} {b0 : Nat} {v : Value} (hv : Value.okWide Try.prog W .any b0 5 v) (h : Opens Try.prog W 5 v) : ∃ x, v = .int .u8 x ∧ 0 ≤ x ∧ x ≤ 255 := by
  obtain ⟨m, hf⟩ := h
  obtain ⟨x, hx, hw⟩ := Op.int Try.underlying5 hf
  obtain ⟨y, rfl⟩ := okWide_int Try.underlying5 hv
  simp [Value.cells] at hx
  subst hx
  exact ⟨y, rfl, bounds_u8 hw⟩
theorem Opens.u8s {W : World} {b0 : Nat} {v : Value} (hv : Value.okWide Try.prog W .any b0 22 v) (h : Opens Try.prog W 22 v) : ∃ l A c, v = .slice A (List.length l) c ∧ Row W 1 A l.length (l.map (Value.int .u8)) ∧ ∀ x ∈ l, 0 ≤ x ∧ x ≤ 255 := by
  obtain ⟨A, n, c, rfl⟩ := okWide_slice Try.underlying22 hv
  obtain ⟨l, rfl, ho, hr, -⟩ := Opens.row1 (B := 1) (Value.int .u8) (fun x => 0 ≤ x ∧ x ≤ 255) Try.underlying22 (by kernel_rfl) (by omega) (by kernel_rfl) (fun m cs' hx => by
    obtain ⟨x, hx, hw⟩ := Op.int Try.underlying5 hx
    exact ⟨x, hx, bounds_u8 hw⟩) h
  exact ⟨l, A, c, rfl, hr, ho⟩
end Go.Proofs.Ytgmdjhokcipajaa
end
