import Derived.Test.YtnfaeafplaeehaaActs4P
import Derived.Deep.CutBlock
set_option linter.unusedVariables false
set_option linter.unusedSimpArgs false
namespace Go.Proofs.Ytnfaeafplaeehaa
open Go.RowKit
/-! The law DiskActs: where all lies. -/
structure Act4 where
  kind : Int
  i : Int
  c : Int
  odd : Bool
  picks : List Pk
  A : Option Addr
  cp : Nat
instance : Inhabited Act4 := ⟨⟨0, 0, 0, false, [], none, 0⟩⟩
def Act4.cells (a : Act4) : List Value := [.int .i64 a.kind, .int .i64 a.i, .int .u8 a.c, .bool a.odd, .slice a.A a.picks.length a.cp]
def Act4.ok (W : World) (a : Act4) : Prop := (-9223372036854775808 ≤ a.i ∧ a.i ≤ 9223372036854775807) ∧ (0 ≤ a.c ∧ a.c ≤ 255) ∧ Row W 3 a.A a.picks.length (a.picks.flatMap Pk.cells) ∧ ∀ p ∈ a.picks, 0 ≤ p.turn ∧ p.turn ≤ 4294967295
def strs (L : List Sec) : List Value := L.map fun s => .string (strOfNums s)
theorem strs_len (L : List Sec) : (strs L).length = L.length := by simp [strs]
theorem strs_get (L : List Sec) (i : Nat) (h : i < L.length) : (strs L)[i]? = some (.string (strOfNums L[i])) := by simp [strs, h]
def StrRow (w : World) (g : Nat) (L : List Sec) : Prop := ∃ r, Blk w g 9 (strs L ++ r).toArray
theorem StrRow.lt {w : World} {g : Nat} {L : List Sec} (h : StrRow w g L) : g < w.heap.size := by
  obtain ⟨r, h⟩ := h
  exact h.lt
theorem StrRow.cell {w : World} {g : Nat} {L : List Sec} (h : StrRow w g L) (i : Nat) (hi : i < L.length) : w.cell? ⟨g, i, none⟩ = some (.string (strOfNums L[i])) := by
  obtain ⟨r, h⟩ := h
  rw [h.cell]
  simp only [List.getElem?_toArray]
  rw [List.getElem?_append_left (by rw [strs_len]; exact hi), strs_get L i hi]
theorem StrRow.frozen {w : World} {g : Nat} {L : List Sec} (h : StrRow w g L) (i : Nat) : w.frozen? ⟨g, i, none⟩ = false := by
  obtain ⟨r, h⟩ := h
  exact h.frozen i
theorem StrRow.set {w : World} {g : Nat} {L : List Sec} (h : StrRow w g L) (i : Nat) (hi : i < L.length) (s : Sec) : StrRow (w.setCell ⟨g, i, none⟩ (.string (strOfNums s))) g (L.set i s) := by
  obtain ⟨r, h⟩ := h
  refine ⟨r, ?_⟩
  have := h.set i (.string (strOfNums s))
  rw [List.setIfInBounds_toArray, List.set_append_left _ _ (by rw [strs_len]; exact hi)] at this
  rw [show strs (L.set i s) = (strs L).set i (.string (strOfNums s)) by simp [strs, List.map_set]]
  exact this
theorem StrRow.same {w w' : World} {g : Nat} {L : List Sec} (h : StrRow w g L) (hs : w'.heap[g]? = w.heap[g]?) : StrRow w' g L := by
  obtain ⟨r, h⟩ := h
  exact ⟨r, hs.trans h⟩
theorem StrRow.below {w w' : World} {g : Nat} {L : List Sec} (h : StrRow w g L) (hb : Below w.heap.size w w') : StrRow w' g L := h.same (hb.block g h.lt)
theorem StrRow.kept {S : List Nat} {w w' : World} {g : Nat} {L : List Sec} (h : StrRow w g L) (hk : Kept S w w') (hg : g ∉ S) : StrRow w' g L := h.same (hk.block g h.lt hg)
theorem StrRow.nt {w : World} {g : Nat} {L : List Sec} (h : StrRow w g L) {k : Nat} {t : TypeId} {cs : Array Value} (hb : Blk w k t cs) (ht : t ≠ 9) : g ≠ k := by
  obtain ⟨r, h⟩ := h
  exact h.nT hb (Ne.symm ht)
theorem StrRow.nm {α β : Type} {w : World} {g k : Nat} {L : List Sec} {ek : α → Value} {ev : β → Value} {m : List (α × β)} (h : StrRow w g L) (hm : MapAt w k ek ev m) : g ≠ k := by
  obtain ⟨r, h⟩ := h
  exact blk_mapD h hm
/-- All of a row goes over another one. -/
theorem StrRow.copy {w : World} {g k : Nat} {L M : List Sec} (h : StrRow w g L) (h2 : StrRow w k M) (hl : M.length = L.length) (c1 c2 : Nat) :
    ∃ w', (∀ ty, (Builtin.copy_ #[76, 76] ty #[.slice (some ⟨g, 0, none⟩) L.length c1, .slice (some ⟨k, 0, none⟩) M.length c2]).run Try.prog w = .ok (goInt M.length) w') ∧ StrRow w' g M ∧ Kept [g] w w' := by
  have hsz : (Try.prog.info? 9).map (·.size) = some 1 := by kernel_rfl
  refine ⟨w.setCells g 0 (strs M), fun ty => ?_, ?_, kept_setCells g _ _ _ _ (Kept.refl _ _)⟩
  · have := run_copy_cells (P := Try.prog) w 76 76 ty 9 g 0 L.length c1 ⟨k, 0, none⟩ M.length c2 (strs M) Try.underlying76 hsz (by rw [strs_len, hl]; exact (Nat.min_self _).symm) (fun j v hj => by
        have hjl : j < M.length := by rw [← strs_len]; exact (List.getElem?_eq_some_iff.1 hj).1
        rw [Go.Addr.add_mid, Nat.zero_add, h2.cell j hjl, ← strs_get M j hjl, hj]) (fun j hj => by
        rw [strs_len] at hj
        rw [Nat.zero_add, h.cell j (by omega)]
        rfl) (fun j hj => h.frozen _) (fun v hv => by simp [strs] at hv; obtain ⟨x, -, rfl⟩ := hv; rfl)
    rw [strs_len] at this
    exact this
  · obtain ⟨r, h⟩ := h
    refine ⟨r, ?_⟩
    have := h.setCells (strs M) 0 w
    have e := putL_mid (strs M) [] (strs L) r (by rw [strs_len, strs_len, hl])
    simp only [List.nil_append, List.length_nil] at e
    rw [e] at this
    exact this
theorem info_str : (Try.prog.info? 9).map (fun i => (i.zero, i.size, i.bytes)) = some (some (.string ⟨#[]⟩), 1, 16) := by kernel_rfl
theorem zsec_full : zsec = fullS 0 := zsec_eq
theorem OwnG.nm {α β : Type} {w : World} {T : TypeId} {sz g k : Nat} {v : Value} {n : Nat} {xs : List Value} {ek : α → Value} {ev : β → Value} {m : List (α × β)} (h : OwnG w T sz g v n xs) (hm : MapAt w k ek ev m) : g ≠ k := by
  obtain ⟨h1, cap, cur, rfl, h2, h3⟩ := h
  exact blk_mapD h2 hm
theorem app_str {w : World} {g k : Nat} {v : Value} {L : List Sec} (h : OwnG w 9 1 g v k (strs L)) (hk : k ≤ 1000000) (b : Nat) (s : Sec) (hb : Blk w b 9 #[.string (strOfNums s)]) :
    ∃ v' w' g', (Builtin.append_ #[76, 76] 76 #[v, .slice (some ⟨b, 0, none⟩) 1 1]).run Try.prog w = .ok v' w' ∧ OwnG w' 9 1 g' v' (k + 1) (strs (L ++ [s])) ∧ (g' = g ∨ w.heap.size ≤ g') ∧ Kept [g] w w' := by
  have := h.append Try.underlying76 info_str rfl (by omega) ⟨b, 0, none⟩ 1 1 [.string (strOfNums s)] rfl (fun j u hj => by
    match j, hj with
    | 0, hj =>
      simp only [List.getElem?_cons_zero, Option.some.injEq] at hj
      subst hj
      rw [Go.Addr.add_mid, hb.cell]
      rfl) (fun u hu => by simp only [List.mem_singleton] at hu; subst hu; rfl) (by omega) (by omega) 76
  rw [show strs (L ++ [s]) = strs L ++ [.string (strOfNums s)] by simp [strs]]
  exact this
theorem OwnG.strs {w : World} {g n : Nat} {v : Value} {L : List Sec} (h : OwnG w 9 1 g v n (strs L)) (hl : L.length = n) : ∃ c, v = .slice (some ⟨g, 0, none⟩) n c ∧ n ≤ c ∧ StrRow w g L := by
  obtain ⟨h1, cap, cur, rfl, h2, h3, h4, h5, h6⟩ := h
  refine ⟨cap, rfl, h3, cur.toList.drop (n * 1), ?_⟩
  unfold Blk
  rw [h2, ← h6, List.take_append_drop]
/-- Where all lies, and what it holds: 'gd' is the map of what is dirty. -/
structure DA (w : World) (n d g bs gs gn : Nat) (W : World) (gd : Nat) (sec : List Sec) (lat : List (Int × Sec)) (fl : Int) : Prop where
  dk : DiskAt W d g bs sec lat fl
  sn : sec.length = n
  rs : StrRow W gs sec
  rn : StrRow W gn (syncS sec lat)
  dm : ∃ dty : List (Int × Bool), MapAt W gd ikey Value.bool dty ∧ ∀ i : Int, (getM dty i).getD false = (getM lat i).isSome
  fl1 : fl ≤ 9223372036854775807
  fl0 : -1 ≤ fl
  by' : ByteS sec lat
  ne : gs ≠ gn
  gl : w.heap.size ≤ d ∧ w.heap.size ≤ g ∧ w.heap.size ≤ bs ∧ w.heap.size ≤ gs ∧ w.heap.size ≤ gn ∧ w.heap.size ≤ gd
  dg : gd ≠ g
  bl : Below w.heap.size w W
theorem DA.start {w W : World} {n d g bs gs gn : Nat} (hD : DiskAt W d g bs (List.replicate n zsec) [] (-1)) (h1 : StrRow W gs (List.replicate n zsec)) (h2 : StrRow W gn (List.replicate n zsec)) (hne : gs ≠ gn)
    (hg : w.heap.size ≤ d ∧ w.heap.size ≤ g ∧ w.heap.size ≤ bs) (hgs : w.heap.size ≤ gs) (hgn : w.heap.size ≤ gn) (hb : Below w.heap.size w W) : DA w n d g bs gs gn (W.alloc (.map #[] 0)) W.heap.size (List.replicate n zsec) [] (-1) := by
  have hbA := (Below.refl W.heap.size W).alloc (Nat.le_refl _) (.map #[] 0)
  refine ⟨hD.below hbA, by simp, h1.below hbA, ?_, ⟨[], MapAt.new W _ _, fun i => rfl⟩, by omega, by omega, ⟨fun s hs => ?_, by simp⟩, hne, ⟨hg.1, hg.2.1, hg.2.2, hgs, hgn, hb.size⟩, Nat.ne_of_gt hD.m.lt, hb.trans (hbA.mono hb.size)⟩
  · rw [syncS_nil]
    exact h2.below hbA
  · rw [(List.mem_replicate.1 hs).2, zsec_full]
    exact byte_full 0 (by omega)
theorem DA.below {w : World} {n d g bs gs gn : Nat} {W W' : World} {gd : Nat} {sec : List Sec} {lat : List (Int × Sec)} {fl : Int} (h : DA w n d g bs gs gn W gd sec lat fl) (hb : Below W.heap.size W W') : DA w n d g bs gs gn W' gd sec lat fl := by
  obtain ⟨dty, hm, hd⟩ := h.dm
  exact ⟨h.dk.below hb, h.sn, h.rs.below hb, h.rn.below hb, ⟨dty, hm.below hb, hd⟩, h.fl1, h.fl0, h.by', h.ne, h.gl, h.dg, h.bl.trans (hb.mono h.bl.size)⟩
theorem DA.nots {w : World} {n d g bs gs gn : Nat} {W : World} {gd : Nat} {sec : List Sec} {lat : List (Int × Sec)} {fl : Int} (h : DA w n d g bs gs gn W gd sec lat fl) : (gs ∉ [d, g, bs] ∧ gn ∉ [d, g, bs]) ∧ (d ∉ [gs, gn] ∧ g ∉ [gs, gn] ∧ bs ∉ [gs, gn]) ∧ gd ∉ [d, g, bs] ∧ gd ∉ [gs, gn] := by
  obtain ⟨dty, hm, hd⟩ := h.dm
  have a1 := h.rs.nt h.dk.d (by decide)
  have a2 := h.rs.nm h.dk.m
  have a3 := h.rs.nt h.dk.s (by decide)
  have b1 := h.rn.nt h.dk.d (by decide)
  have b2 := h.rn.nm h.dk.m
  have b3 := h.rn.nt h.dk.s (by decide)
  have c1 := h.rs.nm hm
  have c2 := h.rn.nm hm
  have c3 := blk_mapD h.dk.d hm
  have c4 := blk_mapD h.dk.s hm
  have c5 := h.dg
  refine ⟨⟨by simp [a1, a2, a3], by simp [b1, b2, b3]⟩, ⟨by simp [Ne.symm a1, Ne.symm b1], by simp [Ne.symm a2, Ne.symm b2], by simp [Ne.symm a3, Ne.symm b3]⟩, by simp [Ne.symm c3, Ne.symm c4, c5], by simp [Ne.symm c1, Ne.symm c2]⟩
/-- The disk was turned, and tells the same of each sector. -/
theorem DA.disk {w : World} {n d g bs gs gn : Nat} {W W' : World} {gd : Nat} {sec : List Sec} {lat : List (Int × Sec)} {fl fl' : Int} (h : DA w n d g bs gs gn W gd sec lat fl) (hD : DiskAt W' d g bs sec lat fl') (hk : Kept [d, g, bs] W W') (h1 : fl' ≤ 9223372036854775807) (h0 : -1 ≤ fl') : DA w n d g bs gs gn W' gd sec lat fl' := by
  obtain ⟨dty, hm, hd⟩ := h.dm
  obtain ⟨⟨n1, n2⟩, -, n3, -⟩ := h.nots
  exact ⟨hD, h.sn, h.rs.kept hk n1, h.rn.kept hk n2, ⟨dty, hm.kept hk n3, hd⟩, h1, h0, h.by', h.ne, h.gl, h.dg, kept_below3 h.bl ⟨h.gl.1, h.gl.2.1, h.gl.2.2.1⟩ hk⟩
theorem DA.synced {w : World} {n d g bs gs gn : Nat} {W W' : World} {gd : Nat} {sec : List Sec} {lat : List (Int × Sec)} {fl fl' : Int} (h : DA w n d g bs gs gn W gd sec lat fl) (hD : DiskAt W' d g bs (syncS sec lat) [] fl') (hk : Kept [d, g, bs] W W') (h1 : fl' ≤ 9223372036854775807) (h0 : -1 ≤ fl') (c1 c2 : Nat) :
    ∃ w4, (∀ ty, (Builtin.copy_ #[76, 76] ty #[.slice (some ⟨gs, 0, none⟩) n c1, .slice (some ⟨gn, 0, none⟩) n c2]).run Try.prog W' = .ok (goInt n) w4) ∧ DA w n d g bs gs gn (w4.alloc (.map #[] 0)) w4.heap.size (syncS sec lat) [] fl' := by
  obtain ⟨⟨n1, n2⟩, ⟨m1, m2, m3⟩, n3, n4⟩ := h.nots
  have hl : (syncS sec lat).length = sec.length := syncS_len _ _
  obtain ⟨w4, hc, hS, hk4⟩ := (h.rs.kept hk n1).copy (h.rn.kept hk n2) hl c1 c2
  rw [hl, h.sn] at hc
  have hb := kept_below3 h.bl ⟨h.gl.1, h.gl.2.1, h.gl.2.2.1⟩ hk
  have hb4 := hk4.below hb hb.size (by simpa using h.gl.2.2.2.1)
  have hbA := (Below.refl w4.heap.size w4).alloc (Nat.le_refl _) (.map #[] 0)
  have hD4 := hD.kept hk4 (by simp at m1; simpa using m1.1) (by simp at m2; simpa using m2.1) (by simp at m3; simpa using m3.1)
  refine ⟨w4, hc, hD4.below hbA, by rw [hl, h.sn], hS.below hbA, ?_, ⟨[], MapAt.new w4 _ _, fun i => rfl⟩, h1, h0, ⟨fun s hs => ?_, by simp⟩, h.ne, ⟨h.gl.1, h.gl.2.1, h.gl.2.2.1, h.gl.2.2.2.1, h.gl.2.2.2.2.1, hb4.size⟩, Nat.ne_of_gt hD4.m.lt, hb4.trans (hbA.mono hb4.size)⟩
  · rw [syncS_nil]
    exact ((h.rn.kept hk n2).kept hk4 (by simpa using Ne.symm h.ne)).below hbA
  · obtain ⟨i, -, rfl⟩ := List.mem_map.1 hs
    exact byte_at h.by' i
/-- A sector was written. -/
theorem DA.wrote {w : World} {n d g bs gs gn : Nat} {W W' : World} {gd : Nat} {sec : List Sec} {lat : List (Int × Sec)} {fl fl' : Int} (h : DA w n d g bs gs gn W gd sec lat fl) (i : Nat) (hi : i < n) (v : Sec) (hv : Byte v) (hD : DiskAt W' d g bs sec (updM lat (i : Int) v) fl') (hk : Kept [d, g] W W') (h1 : fl' ≤ 9223372036854775807) (h0 : -1 ≤ fl') :
    (∃ c, W'.cell? ⟨gn, i, none⟩ = some c ∧ W'.frozen? ⟨gn, i, none⟩ = false) ∧ ∃ w5, (Instr.mapUpdate 77 (.map (some gd)) (.int .i64 i) (.bool true)).run Try.prog (W'.setCell ⟨gn, i, none⟩ (.string (strOfNums v))) = .ok () w5 ∧ DA w n d g bs gs gn w5 gd sec (updM lat (i : Int) v) fl' := by
  obtain ⟨⟨n1, n2⟩, ⟨m1, m2, m3⟩, n3, n4⟩ := h.nots
  have hk3 : Kept [d, g, bs] W W' := hk.more (by simp)
  have hR := h.rn.kept hk3 n2
  have hil : i < (syncS sec lat).length := by rw [syncS_len, h.sn]; exact hi
  have hk4 : Kept [gn] W' (W'.setCell ⟨gn, i, none⟩ (.string (strOfNums v))) := kept_set (Kept.refl _ _) _ _ (.inl (by simp))
  obtain ⟨dty, hm, hd⟩ := h.dm
  have hm4 := (hm.kept hk3 n3).kept hk4 (by simp at n4; simpa using n4.2)
  obtain ⟨w5, hup, hM5, hk5⟩ := run_mapUpdate ikey_keys Try.underlying77 hm4 (i : Int) true
  have hn4 : gd ≠ gs ∧ gd ≠ gn := by simpa using n4
  have hn3 : gd ≠ d ∧ gd ≠ g ∧ gd ≠ bs := by simpa using n3
  have hm1 : d ≠ gs ∧ d ≠ gn := by simpa using m1
  have hm2 : g ≠ gs ∧ g ≠ gn := by simpa using m2
  have hm3 : bs ≠ gs ∧ bs ≠ gn := by simpa using m3
  have hb := kept_below3 h.bl ⟨h.gl.1, h.gl.2.1, h.gl.2.2.1⟩ hk3
  have hb5 := hk5.below (hk4.below hb hb.size (by simpa using h.gl.2.2.2.2.1)) (Nat.le_trans hb.size hk4.size) (by simpa using h.gl.2.2.2.2.2)
  refine ⟨⟨_, hR.cell i hil, hR.frozen i⟩, w5, hup, ?_, h.sn, ?_, ?_, ⟨updM dty (i : Int) true, hM5, fun x => ?_⟩, h1, h0, ⟨h.by'.1, fun e he => ?_⟩, h.ne, h.gl, h.dg, hb5⟩
  · exact (hD.kept hk4 (by simpa using hm1.2) (by simpa using hm2.2) (by simpa using hm3.2)).kept hk5 (by simpa using Ne.symm hn3.1) (by simpa using Ne.symm hn3.2.1) (by simpa using Ne.symm hn3.2.2)
  · exact ((h.rs.kept hk3 n1).kept hk4 (by simpa using h.ne)).kept hk5 (by simpa using Ne.symm hn4.1)
  · rw [syncS_upd sec lat i v (by rw [h.sn]; exact hi)]
    exact (hR.set i hil v).kept hk5 (by simpa using Ne.symm hn4.2)
  · rw [getM_updM, getM_updM]
    split
    · rfl
    · exact hd x
  · rcases updM_keys _ _ _ e he with rfl | he
    · exact hv
    · exact h.by'.2 e he
/-- A crash. -/
theorem DA.crashed {w : World} {n d g bs gs gn : Nat} {W W1 W' : World} {gd : Nat} {sec : List Sec} {lat : List (Int × Sec)} {fl : Int} {picks : List Pk} (h : DA w n d g bs gs gn W gd sec lat fl) (hD : DiskAt W1 d g bs (crashS sec lat picks) [] (-1)) (hk : Kept [d, g, bs] W W1) (hk1 : Kept [gs] W1 W') (hS : StrRow W' gs (crashS sec lat picks)) (c1 c2 : Nat) :
    ∃ w4, (∀ ty, (Builtin.copy_ #[76, 76] ty #[.slice (some ⟨gn, 0, none⟩) n c1, .slice (some ⟨gs, 0, none⟩) n c2]).run Try.prog W' = .ok (goInt n) w4) ∧ DA w n d g bs gs gn (w4.alloc (.map #[] 0)) w4.heap.size (crashS sec lat picks) [] (-1) := by
  obtain ⟨⟨n1, n2⟩, ⟨m1, m2, m3⟩, n3, n4⟩ := h.nots
  have hl : (crashS sec lat picks).length = n := by unfold crashS; rw [crashN_len]; exact h.sn
  have hm1 : d ≠ gs ∧ d ≠ gn := by simpa using m1
  have hm2 : g ≠ gs ∧ g ≠ gn := by simpa using m2
  have hm3 : bs ≠ gs ∧ bs ≠ gn := by simpa using m3
  have hN := (h.rn.kept hk n2).kept hk1 (by simpa using Ne.symm h.ne)
  obtain ⟨w4, hc, hS4, hk4⟩ := hN.copy hS (by rw [hl, syncS_len, h.sn]) c1 c2
  rw [hl, syncS_len, h.sn] at hc
  have hb := kept_below3 h.bl ⟨h.gl.1, h.gl.2.1, h.gl.2.2.1⟩ hk
  have hb1 := hk1.below hb hb.size (by simpa using h.gl.2.2.2.1)
  have hb4 := hk4.below hb1 hb1.size (by simpa using h.gl.2.2.2.2.1)
  have hbA := (Below.refl w4.heap.size w4).alloc (Nat.le_refl _) (.map #[] 0)
  have hD4 := (hD.kept hk1 (by simpa using hm1.1) (by simpa using hm2.1) (by simpa using hm3.1)).kept hk4 (by simpa using hm1.2) (by simpa using hm2.2) (by simpa using hm3.2)
  refine ⟨w4, hc, hD4.below hbA, hl, (hS.kept hk4 (by simpa using h.ne)).below hbA, ?_, ⟨[], MapAt.new w4 _ _, fun i => rfl⟩, by omega, by omega, ⟨byte_crashN h.by' _ _, by simp⟩, h.ne, ⟨h.gl.1, h.gl.2.1, h.gl.2.2.1, h.gl.2.2.2.1, h.gl.2.2.2.2.1, hb4.size⟩, Nat.ne_of_gt hD4.m.lt, hb4.trans (hbA.mono hb4.size)⟩
  rw [syncS_nil]
  exact hS4.below hbA
theorem look_dirty {w : World} {b : Nat} {m : List (Int × Bool)} (h : MapAt w b ikey Value.bool m) (k : Int) : (Instr.lookup 77 (.map (some b)) (.int .i64 k) false).run Try.prog w = .ok (.bool ((getM m k).getD false)) w := by
  cases hg : getM m k with
  | none => exact run_lookup_none ikey_keys Try.underlying77 h k hg false _ (fun w => by kernel_rfl)
  | some v => exact run_lookup_some ikey_keys Try.underlying77 h k v hg false
end Go.Proofs.Ytnfaeafplaeehaa
