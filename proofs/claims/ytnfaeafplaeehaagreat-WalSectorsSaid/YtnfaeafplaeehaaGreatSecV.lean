import Derived.Test.YtnfaeafplaeehaaGreatMrgP
import Derived.Test.YtnfaeafplaeehaaGreatMrgN
import Derived.Test.YtnfaeafplaeehaaGreatMrgB
import Derived.Test.YtnfaeafplaeehaaGreatBytes05
import Derived.Test.YtnfaeafplaeehaaGreatMrgD
set_option linter.unusedVariables false
set_option linter.unusedSimpArgs false
namespace Go.Proofs.YtnfaeafplaeehaaGreat
open Go.RowKit
/-! WalSectors: what holds ahead of each round, and what an append comes to. -/
theorem half_bd (size : Int) : 2 ≤ wrap64 (2 + wrap64 ((IntKind.u64.wrap size).tmod 12)) ∧ wrap64 (2 + wrap64 ((IntKind.u64.wrap size).tmod 12)) ≤ 13 := by
  have h : 0 ≤ IntKind.u64.wrap size := by rw [IntKind.wrap_u64]; omega
  rw [Int.tmod_eq_emod_of_nonneg h]
  generalize IntKind.u64.wrap size = x at *
  unfold wrap64
  omega
theorem size_bd (half b : Int) (hh : 2 ≤ half ∧ half ≤ 13) (hb : 0 ≤ b ∧ b ≤ 1) : ∃ n : Nat, wrap64 (wrap64 (2 * half) + b) = n ∧ (n : Int) / 2 = half ∧ 4 ≤ n ∧ n ≤ 27 := by
  refine ⟨(2 * half + b).toNat, ?_, ?_, ?_, ?_⟩
  · unfold wrap64; omega
  all_goals omega
theorem ownG_blk {w : World} {T : TypeId} {sz g : Nat} {v : Value} {n : Nat} {xs : List Value} (h : OwnG w T sz g v n xs) : ∃ cs, Blk w g T cs := by
  obtain ⟨-, cap, cur, -, h2, -⟩ := h
  exact ⟨cur, h2⟩
/-- A row of records lies apart from a journal and a model. -/
theorem rowG_off {w : World} {q L d g bs s g1 g2 m h1 h2 : Nat} {c : LogC} {σ τ : St} {D : DiskM} {v : Value} {n : Nat} {xs : List Value} (hQ : OwnG w 41 9 q v n xs) (h : WalAt w L d g bs s g1 g2 c σ D) (hM : StAt 69 w m h1 h2 τ) : q ∉ [L, d, g, bs, s, g1, g2] ∧ q ∉ [m, h1, h2] := by
  obtain ⟨cs, hb⟩ := ownG_blk hQ
  have h3 := blk_off hb h
  have h4 : q ≠ m := hb.nT hM.1 (by decide)
  have h5 : q ≠ h1 := blk_mapD hb hM.2.1
  have h6 : q ≠ h2 := blk_mapD hb hM.2.2.1
  constructor <;> (simp only [List.mem_cons, List.not_mem_nil, or_false, not_or]; omega)
/-- What holds ahead of each round. -/
structure SecR (w W : World) (L d g bs s g1 g2 m h1 h2 q : Nat) (half : Int) (n : Nat) (v : Value) (reg gen : Int) (want : List Rec) (σ : St) (D : DiskM) (k G : Nat) : Prop where
  wal : WalAt W L d g bs s g1 g2 ⟨half, reg, gen, want.length, false⟩ σ D
  mod : StAt 69 W m h1 h2 σ
  own : OwnG W 41 9 q v want.length (recs want)
  inv : SecI half n reg gen want σ D k G
  id : σ.id = 5
  q0 : w.heap.size ≤ q
  bel : Below w.heap.size w W
theorem SecR.below {w W W' : World} {L d g bs s g1 g2 m h1 h2 q : Nat} {half : Int} {n : Nat} {v : Value} {reg gen : Int} {want : List Rec} {σ : St} {D : DiskM} {k G : Nat} (h : SecR w W L d g bs s g1 g2 m h1 h2 q half n v reg gen want σ D k G) (hb : Below W.heap.size W W') : SecR w W' L d g bs s g1 g2 m h1 h2 q half n v reg gen want σ D k G :=
  ⟨h.wal.below hb, h.mod.below hb, h.own.below hb, h.inv, h.id, h.q0, h.bel.trans (hb.mono h.bel.size)⟩
theorem good_len {σ : St} {k : Nat} (h : Good σ k) (hk : k ≤ 60) : σ.own.length ≤ 60 ∧ σ.fl.length ≤ 60 := ⟨Nat.le_trans h.l1 hk, Nat.le_trans h.l2 hk⟩
theorem sec_append {w W : World} {L d g bs s g1 g2 m h1 h2 q : Nat} {half : Int} {n : Nat} {v : Value} {reg gen : Int} {want : List Rec} {σ : St} {D : DiskM} {k G : Nat} (h : SecR w W L d g bs s g1 g2 m h1 h2 q half n v reg gen want σ D k G) (hG : G ≤ 1000) (hk : k ≤ 60) (r : Rec) (hr : RecG r) (hk1 : r.kind ≠ 1) (hl : (want.length : Int) < half) :
    Calls Tryz.prog 11 #[.pointer (some ⟨L, 0, none⟩), r.val] W fun e w' => e = .returned (.int .i64 0) ∧ WalAt w' L d g bs s g1 g2 ⟨half, reg, gen, (want.length : Int) + 1, false⟩ (σ.apply r) (appendD ⟨half, reg, gen, want.length, false⟩ D r) ∧ Kept [L, d, g, bs, s, g1, g2] W w' := by
  have hg := h.inv.logGood hG
  have hgl := good_len h.inv.good hk
  obtain ⟨ha, -⟩ := append_room h.inv.calm hg h.inv.two.1 σ r hr.2 hk1 hl
  refine (wal_Append r L d s g bs g1 g2 _ σ D W h.wal (by have := h.inv.calm.fl; omega) hg hr.1 (by have := h.id; omega) (by omega) (by omega) (fun x hx => (h.inv.st.recs x hx).1)).mono ?_
  intro e w' hh
  rw [ha] at hh
  exact hh
theorem sec_append_full {w W : World} {L d g bs s g1 g2 m h1 h2 q : Nat} {half : Int} {n : Nat} {v : Value} {reg gen : Int} {want : List Rec} {σ : St} {D : DiskM} {k G : Nat} (h : SecR w W L d g bs s g1 g2 m h1 h2 q half n v reg gen want σ D k G) (hG : G ≤ 1000) (hk : k ≤ 60) (r : Rec) (hr : RecG r) (hk1 : r.kind ≠ 1) (hl : (want.length : Int) = half) (hf : ((recsM σ).length : Int) + 2 ≤ half) :
    Calls Tryz.prog 11 #[.pointer (some ⟨L, 0, none⟩), r.val] W fun e w' => e = .returned (.int .i64 0) ∧ WalAt w' L d g bs s g1 g2 ⟨half, 1 - reg, gen + 1, ((wantC (gen + 1) σ).length : Int) + 1, false⟩ (σ.apply r) (appendD ⟨half, 1 - reg, gen + 1, (wantC (gen + 1) σ).length, false⟩ (compactD ⟨half, reg, gen, want.length, false⟩ σ D) r) ∧ Kept [L, d, g, bs, s, g1, g2] W w' := by
  have hg := h.inv.logGood hG
  have hgl := good_len h.inv.good hk
  have hw : IntKind.u32.wrap (gen + 1) = gen + 1 := by have := h.inv.gn; rw [IntKind.wrap_u32]; omega
  obtain ⟨ha, -⟩ := append_full h.inv.calm hg h.inv.two.1 σ h.inv.st.id.1 rfl r hr.2 hk1 hl (fun x hx => (h.inv.st.recs x hx).2) hf
  simp only [hw] at ha
  refine (wal_Append r L d s g bs g1 g2 _ σ D W h.wal (by have := h.inv.calm.fl; omega) hg hr.1 (by have := h.id; omega) (by omega) (by omega) (fun x hx => (h.inv.st.recs x hx).1)).mono ?_
  intro e w' hh
  rw [ha] at hh
  rw [wantC_len]
  push_cast
  rw [Int.add_assoc]
  exact hh
theorem sec_append_no {w W : World} {L d g bs s g1 g2 m h1 h2 q : Nat} {half : Int} {n : Nat} {v : Value} {reg gen : Int} {want : List Rec} {σ : St} {D : DiskM} {k G : Nat} (h : SecR w W L d g bs s g1 g2 m h1 h2 q half n v reg gen want σ D k G) (hG : G ≤ 1000) (hk : k ≤ 60) (r : Rec) (hr : RecG r) (hk1 : r.kind ≠ 1) (hl : (want.length : Int) = half) (hf : half < ((recsM σ).length : Int) + 2) :
    Calls Tryz.prog 11 #[.pointer (some ⟨L, 0, none⟩), r.val] W fun e w' => e = .returned (.int .i64 5) ∧ WalAt w' L d g bs s g1 g2 ⟨half, reg, gen, want.length, false⟩ σ D ∧ Kept [L, d, g, bs, s, g1, g2] W w' := by
  have hg := h.inv.logGood hG
  have hgl := good_len h.inv.good hk
  have ha := append_e (c := ⟨half, reg, gen, want.length, false⟩) (σ := σ) (D := D) (r := r) (by rw [show recRightB { r with gen := gen, lsn := 0 } = recRightB r from rfl, hr.2]; simp [hk1]) hl (compact_full (c := ⟨half, reg, gen, want.length, false⟩) hf) (by decide)
  refine (wal_Append r L d s g bs g1 g2 _ σ D W h.wal (by have := h.inv.calm.fl; omega) hg hr.1 (by have := h.id; omega) (by omega) (by omega) (fun x hx => (h.inv.st.recs x hx).1)).mono ?_
  intro e w' hh
  rw [ha] at hh
  exact hh
theorem rec_info : (Tryz.prog.info? 41).map (fun i => (i.zero, i.size, i.bytes)) = some (some (.agg #[.int .i64 0, .int .u32 0, .int .u32 0, .int .u32 0, .int .u32 0, .int .i64 0, .bool false, .int .u32 0, .int .u16 0]), 9, 56) := by kernel_rfl
theorem recs_app (a : List Rec) (r : Rec) : recs (a ++ [r]) = recs a ++ r.cells := by simp [recs]
/-- A record behind a row of records. -/
theorem own_rec {W : World} {q : Nat} {v : Value} {a : List Rec} (h : OwnG W 41 9 q v a.length (recs a)) (hl : a.length ≤ 100000) (r : Rec) :
    ∃ v' w' q', (Builtin.append_ #[22, 22] 22 #[v, .slice (some ⟨W.heap.size, 0, none⟩) 1 1]).run Tryz.prog (W.alloc (.cells r.arr 41)) = .ok v' w' ∧ OwnG w' 41 9 q' v' (a ++ [r]).length (recs (a ++ [r])) ∧ (q' = q ∨ W.heap.size ≤ q') ∧ Kept [q] W w' := by
  have hb := (Below.refl W.heap.size W).alloc (Nat.le_refl _) (.cells r.arr 41)
  obtain ⟨v', w', q', hrun, hO, hq, hk⟩ := OwnG.append (P := Tryz.prog) Tryz.underlying22 rec_info rfl (by decide) (h.below hb) ⟨W.heap.size, 0, none⟩ 1 1 r.cells rfl (fun j u hj => by
    have := (Blk.new W 41 r.arr).cell j
    rw [add_plain, this]
    simpa [Rec.arr, Rec.cells] using hj) (by intro u hu; simp [Rec.cells] at hu; rcases hu with rfl | rfl | rfl | rfl | rfl | rfl | rfl | rfl | rfl <;> rfl) (by omega) (by omega) 22
  refine ⟨v', w', q', hrun, ?_, ?_, (Kept.of_below hb).trans hk⟩
  · rw [recs_app, List.length_append, List.length_singleton]
    exact hO
  · rcases hq with h | h
    · exact .inl h
    · exact .inr (by simp at h; omega)
theorem own_gen {W : World} {q : Nat} {v : Value} {n : Nat} {w0 : Rec} {t : List Rec} (h : OwnG W 41 9 q v n (recs (w0 :: t))) : W.cell? ⟨q, 1, none⟩ = some (.int .u32 w0.gen) := by
  obtain ⟨h1, cap, cur, rfl, h2, h3, h4, h5, h6⟩ := h
  have hl : (recs (w0 :: t)).length = 9 + (recs t).length := by simp [recs, Rec.cells]; omega
  have hj : (recs (w0 :: t))[1]? = some (.int .u32 w0.gen) := by simp [recs, Rec.cells]
  rw [← h6, List.getElem?_take] at hj
  split at hj
  · simp only [World.cell?, h2]
    simpa using hj
  · cases hj
theorem own_slice {W : World} {q : Nat} {v : Value} {n : Nat} {xs : List Value} (h : OwnG W 41 9 q v n xs) : ∃ c, v = .slice (some ⟨q, 0, none⟩) n c ∧ n ≤ c := by
  obtain ⟨h1, cap, cur, rfl, h2, h3, h4, h5, h6⟩ := h
  exact ⟨cap, rfl, h3⟩
end Go.Proofs.YtnfaeafplaeehaaGreat
