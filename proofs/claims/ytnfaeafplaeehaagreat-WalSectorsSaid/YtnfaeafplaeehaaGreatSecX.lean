import Derived.Test.YtnfaeafplaeehaaGreatSecV
import Derived.Test.YtnfaeafplaeehaaGreatBuild1
set_option linter.unusedVariables false
set_option linter.unusedSimpArgs false
namespace Go.Proofs.YtnfaeafplaeehaaGreat
open Go.RowKit
/-! WalSectors: what holds ahead of an append, the region full or not. -/
theorem apply_id (σ : St) (r : Rec) : (σ.apply r).id = σ.id := by
  unfold St.apply
  split
  · rfl
  · split
    · rfl
    · split <;> rfl
theorem wrap_succ (j : Nat) (h : j ≤ 1000000) : IntKind.i64.wrap ((j : Int) + 1) = ((j + 1 : Nat) : Int) := by rw [IntKind.wrap_i64]; omega
theorem meas_succ (n j : Nat) (h : j < n) (hn : n ≤ 1000000) : n - (intOf (.int .i64 (IntKind.i64.wrap ((j : Int) + 1)))).toNat < n - (intOf (.int .i64 (j : Int))).toNat := by
  rw [wrap_succ j (by omega)]
  simp only [intOf, Int.toNat_natCast]
  omega
theorem wrap_succ64 (j : Nat) (h : j ≤ 1000000) : wrap64 ((j : Int) + 1) = ((j + 1 : Nat) : Int) := by unfold wrap64; omega
theorem meas_succ64 (n j : Nat) (h : j < n) (hn : n ≤ 1000000) : n - (intOf (.int .i64 (wrap64 ((j : Int) + 1)))).toNat < n - (intOf (.int .i64 (j : Int))).toNat := by
  rw [wrap_succ64 j (by omega)]
  simp only [intOf, Int.toNat_natCast]
  omega
theorem place_all (half reg : Int) (j n : Nat) (hh : 2 ≤ half ∧ half ≤ 13) (hr : reg = 0 ∨ reg = 1) (h2 : 2 * half ≤ n) (hj : (j : Int) < half) :
    ∃ pl : Nat, reg * half + (j : Int) = pl ∧ pl < n ∧ (wrap64 (reg * half) = reg * half ∧ IntKind.i64.wrap (reg * half) = reg * half) ∧ wrap64 (reg * half + (j : Int)) = pl ∧ IntKind.i64.wrap (reg * half + (j : Int)) = pl := by
  refine ⟨(reg * half + (j : Int)).toNat, ?_⟩
  rw [IntKind.wrap_i64, IntKind.wrap_i64]
  unfold wrap64
  rcases hr with rfl | rfl
  · simp only [Int.zero_mul]; omega
  · simp only [Int.one_mul]; omega
theorem less_one (n : Nat) (h : n ≤ 1000) : wrap64 ((n : Int) - 1) = (n : Int) - 1 ∧ IntKind.i64.wrap ((n : Int) - 1) = (n : Int) - 1 := by
  rw [IntKind.wrap_i64]
  unfold wrap64
  omega
theorem u32_len (n : Nat) (h : n ≤ 1000) : IntKind.u32.wrap (n : Int) = (n : Int) := by rw [IntKind.wrap_u32]; omega
theorem one_sub (reg : Int) (h : reg = 0 ∨ reg = 1) : IntKind.i64.wrap (1 - reg) = 1 - reg ∧ wrap64 (1 - reg) = 1 - reg := by rcases h with rfl | rfl <;> simp [IntKind.wrap_i64, wrap64]
theorem gen_succ {gen : Int} {G : Nat} (h : 1 ≤ gen ∧ gen ≤ (G : Int)) (hG : G ≤ 1000) : IntKind.u32.wrap (gen + 1) = gen + 1 ∧ 0 ≤ gen + 1 ∧ gen + 1 ≤ 4294967295 := by rw [IntKind.wrap_u32]; omega
theorem len_pos {n : Nat} (h : 1 ≤ n) : 0 < (n : Int) := by omega
theorem two_more (n : Nat) (h : n ≤ 1000) : IntKind.i64.wrap ((n : Int) + 2) = (n : Int) + 2 ∧ wrap64 ((n : Int) + 2) = (n : Int) + 2 := by
  constructor
  · rw [IntKind.wrap_i64]; omega
  · unfold wrap64; omega
theorem wpList_buildRec {ops : Array Oper} {rest : List Oper} {o : Oper} {a : Act} {w : World} {Q : Exit → Act → World → Prop} (hg : o.guard = none) (x : Operand) (ho : o.op = .buildSlice 22 1 #[(0, x)]) (r : Rec) (hx : a.eval x = r.val)
    (h : wpList Tryz.prog ops Q rest (a.put o.dst (.slice (some ⟨w.heap.size, 0, none⟩) 1 1)) (w.alloc (.cells r.arr 41))) : wpList Tryz.prog ops Q (o :: rest) a w := by
  obtain ⟨i0, hi, hz0, hz1, hz2⟩ := info_parts rec_info
  refine wpList_build1 hg 22 41 x ho r.arr Tryz.underlying22 hx i0 _ hi hz0 (by rw [hz1]; decide) (by rw [hz1]; decide) ?_ h
  rw [hz1]
  obtain ⟨rk, rg, rl, ri, ra, rp, ro, rs, rm⟩ := r
  simp only [Rec.arr]
  kernel_rfl
theorem lsn_wraps (j : Nat) (h : j ≤ 1000) : IntKind.i64.wrap ((j : Int) + 1) = (j : Int) + 1 ∧ wrap64 ((j : Int) + 1) = (j : Int) + 1 ∧ IntKind.u32.wrap ((j : Int) + 1) = (j : Int) + 1 := by
  refine ⟨?_, ?_, ?_⟩
  · rw [IntKind.wrap_i64]; omega
  · unfold wrap64; omega
  · rw [IntKind.wrap_u32]; omega
structure SecM (w W : World) (L d g bs s g1 g2 m h1 h2 p q : Nat) (half : Int) (n : Nat) (v : Value) (reg gen : Int) (want : List Rec) (σ : St) (r : Rec) (D2 : DiskM) (k G : Nat) : Prop where
  app : ∀ W', Below W.heap.size W W' → Calls Tryz.prog 11 #[.pointer (some ⟨L, 0, none⟩), r.val] W' fun e w' => e = .returned (.int .i64 0) ∧ WalAt w' L d g bs s g1 g2 ⟨half, reg, gen, (want.length : Int) + 1, false⟩ (σ.apply r) D2 ∧ Kept [L, d, g, bs, s, g1, g2] W' w'
  mod : StAt 69 W m h1 h2 σ
  own : OwnG W 41 9 q v want.length (recs want)
  kp : Blk W p 41 r.arr
  offq : q ∉ [L, d, g, bs, s, g1, g2]
  offp : p ∉ [L, d, g, bs, s, g1, g2]
  hpq : p ≠ q
  p0 : w.heap.size ≤ p
  q0 : w.heap.size ≤ q
  bel : Below w.heap.size w W
  ln : 1 ≤ want.length ∧ (want.length : Int) < half
  hd : ∃ w0 t, want = w0 :: t ∧ w0.gen = gen
  inv : SecI half n reg gen (want ++ [{ r with gen := gen, lsn := (want.length : Int) }]) (σ.apply r) D2 k G
  id : σ.id = 5
theorem SecR.blkOff {w W : World} {L d g bs s g1 g2 m h1 h2 p q : Nat} {half : Int} {n : Nat} {v : Value} {reg gen : Int} {want : List Rec} {σ : St} {D : DiskM} {k G : Nat} (h : SecR w W L d g bs s g1 g2 m h1 h2 q half n v reg gen want σ D k G) {cs : Array Value} (kp : Blk W p 41 cs) : p ∉ [L, d, g, bs, s, g1, g2] := by
  have := blk_off kp h.wal
  simp only [List.mem_cons, List.not_mem_nil, or_false, not_or]
  exact this
theorem secM_room {w W : World} {L d g bs s g1 g2 m h1 h2 p q : Nat} {half : Int} {n : Nat} {v : Value} {reg gen : Int} {want : List Rec} {σ : St} {D : DiskM} {k G : Nat} (h : SecR w W L d g bs s g1 g2 m h1 h2 q half n v reg gen want σ D k G) (hG : G ≤ 1000) (hk : k ≤ 60) (r : Rec) (hr : RecG r) (hk1 : r.kind ≠ 1) (hl : (want.length : Int) < half)
    (kp : Blk W p 41 r.arr) (hpq : p ≠ q ∧ w.heap.size ≤ p) : SecM w W L d g bs s g1 g2 m h1 h2 p q half n v reg gen want σ r (appendD ⟨half, reg, gen, want.length, false⟩ D r) (k + 1) G :=
  ⟨fun W' hb => sec_append (h.below hb) hG hk r hr hk1 hl, h.mod, h.own, kp, (rowG_off h.own h.wal h.mod).1, h.blkOff kp, hpq.1, hpq.2, h.q0, h.bel, ⟨h.inv.len.1, hl⟩, h.inv.hd, sec_add h.inv hG r hr hl, h.id⟩
theorem secM_full {w W V : World} {L d g bs s g1 g2 m h1 h2 p q q2 : Nat} {half : Int} {n : Nat} {v v2 : Value} {reg gen : Int} {want : List Rec} {σ : St} {D : DiskM} {k G : Nat} (h : SecR w W L d g bs s g1 g2 m h1 h2 q half n v reg gen want σ D k G) (hG : G ≤ 999) (hk : k ≤ 60) (r : Rec) (hr : RecG r) (hk1 : r.kind ≠ 1) (hl : (want.length : Int) = half) (hf : ((recsM σ).length : Int) + 2 ≤ half)
    (kp : Blk W p 41 r.arr) (hpq : p ≠ q ∧ w.heap.size ≤ p) (hV : Below W.heap.size W V) (hq2 : W.heap.size ≤ q2) (hO : OwnG V 41 9 q2 v2 (wantC (gen + 1) σ).length (recs (wantC (gen + 1) σ))) :
    SecM w V L d g bs s g1 g2 m h1 h2 p q2 half n v2 (1 - reg) (gen + 1) (wantC (gen + 1) σ) σ r (appendD ⟨half, 1 - reg, gen + 1, (wantC (gen + 1) σ).length, false⟩ (compactD ⟨half, reg, gen, want.length, false⟩ σ D) r) (k + 1) (G + 1) := by
  have hIC := sec_compact h.inv (by omega) h.id hf
  have hwl := wantC_len (gen + 1) σ
  have h' := h.below hV
  have kp' := kp.below' hV
  have hoff : ∀ x ∈ [L, d, g, bs, s, g1, g2], x < W.heap.size := fun x hx => h.wal.lts x hx
  have hps := h.bel.size
  refine ⟨fun W' hb => sec_append_full (h.below (hV.trans (hb.mono hV.size))) (by omega) hk r hr hk1 hl hf, h'.mod, hO, kp', fun hx => by have := hoff _ hx; omega, h'.blkOff kp', by have := kp.lt; omega, hpq.2, by omega, h'.bel, ⟨by omega, by omega⟩, ⟨_, _, rfl, rfl⟩, sec_add hIC (by omega) r hr (by omega), h.id⟩
theorem wantC_get (gen : Int) (σ : St) (j : Nat) (h : j < (recsM σ).length) : (wantC gen σ).take (j + 2) = (wantC gen σ).take (j + 1) ++ [{ (recsM σ)[j] with gen := gen, lsn := (j : Int) + 1 }] := by
  have hl := wantC_len gen σ
  rw [List.take_succ_eq_append_getElem (i := j + 1) (by omega)]
  congr 1
  simp [wantC]
end Go.Proofs.YtnfaeafplaeehaaGreat
